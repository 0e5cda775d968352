/- The walks of package prime, but for the function All. The walk of prime.All. The walks of specs, of package multi, and of the document's rows. Plain words for what rows cover: the points of an output, point by point. Steps of the walks. No program in it. -/
import Derived.Test.YteimkklmmanncaaGreatWCube
import Derived.Test.YteimkklmmanncaaGreatLift2
namespace Go.Proofs.YteimkklmmanncaaGreat
set_option linter.unusedVariables false
set_option linter.unusedSimpArgs false
section
open Go Go.RowKit
theorem zX : dD Tryz.prog 67 = true := by kernel_rfl
theorem qg : dD Tryz.prog 41 = true := by kernel_rfl
theorem Ec : dD Tryz.prog 61 = true := by kernel_rfl
theorem ut {f : Nat → Value} {w : World} {d : Option Nat} {ty : TypeId} {ps : String} {af : Array Edge} {g : Option (Nat × Bool)}    :
    (execOp (dP f) ⟨d, .build 40 #[], ty, ps, af, g⟩).run Tryz.prog w = .ok (.value (.agg #[.int .u8 0, .int .u8 0])) w := by
  obtain ⟨i0, hi0, hz0⟩ := Option.bind_eq_some_iff.1 (show (Tryz.prog.info? 40).bind (·.zero) = _ from jl)
  obtain ⟨j5, hj5, hs5⟩ := Option.map_eq_some_iff.1 r7
  simp [execOp, Instr.build, zeroValue, typeInfo, sizeOf, hi0, hz0, run_underlying Tryz.underlying40, Instr.fill, fe, hj5, hs5]
theorem Av : dD Tryz.prog 59 = true := by kernel_rfl
theorem fh : fQ Tryz.prog 66 = some (40, 2, 2) := by kernel_rfl
theorem Pm : dD Tryz.prog 96 = true := by kernel_rfl
theorem jp : (eO Tryz.prog 40).map (fun z => z.cells.size) = some 2 := by kernel_rfl
theorem mS (m u s : Nat) (n : Int) (w : World) (hm : m < 256) (hv : u < 256) :
    Fn Tryz.prog 61 #[.agg #[.int .u8 (m : Int), .int .u8 (u : Int)], eT s, .int .i64 n] w fun v w' => v = .bool (pv m u s n) := by
 refine dq (n := 22) Tryz.func61 rfl rfl (Nat.le_of_ble_eq_true rfl) ?_
 have hB : Below w.heap.size w w := Below.refl _ _
 refine Zr <| Zy (dY (c := #[_, _]) rfl rfl fun B W3 k p a => ?_)
 have C := ZO k hB
 clear k
 replace hB := Ze hB p
 refine Zy (dY (c := #[_, _, _, _]) rfl rfl fun D W6 l o b => ?_)
 have E := ZO l hB
 clear l
 replace hB := Ze hB o
 replace a := o.at a
 refine Zw (.bool false) rfl <| cT <| Zr <| Zv (db rfl dQ rfl a) <| Zi rfl <| ZC (vs := [.agg #[_, _], .int .i64 _]) zX (lB _ _ _ _ (by first | assumption | omega) (by first | assumption | omega)) rfl fun F G g q => ?_
 replace hB := Ze hB g
 replace a := g.at a
 replace b := g.at b
 obtain ⟨sa, er, rfl, hhP1_2⟩ := tZ q
 refine Zw (.tuple #[.agg #[_, _, _, _], .int .i64 _]) rfl <| Zv (dG rfl) <| Zv (dJ rfl) <| Zy (dt eR rfl fun r t h i d => ?_)
 have x := ZO h hB
 have y := Zn h b.lt
 clear h
 replace hB := Ze hB i
 replace a := i.at a
 replace b := i.at b
 replace d : At t r #[wv 0 0, wv 0 1, wv 0 2, wv 0 3] 49 := d
 refine Zy (dg rfl rfl df rfl d rfl rfl fun H j z => ?_)
 replace hB := Zg hB j x
 replace a := At.grownAt a d j Dd
 replace b := At.grownNe b y j
 replace d := z
 refine Zi rfl <| cT <| Zr <| Zi rfl <| Zv (dS rfl rfl) <| ZX rfl (fun e => ?_) fun e => ?_
 refine Zv (db rfl df rfl d) <| Zv (db rfl df rfl b) <| ZC (vs := [.agg #[_, _, _, _], .agg #[_, _, _, _]]) qg (iw _ _ _) rfl fun I J f A => ?_
 replace hB := Ze hB f
 replace a := f.at a
 replace b := f.at b
 replace d := f.at d
 obtain rfl := A
 refine Zb rfl <| Zb rfl <| cT <| Zt <| dC (v := .bool _) rfl ⟨hB, ?_⟩
 first | exact congrArg Value.bool (HM hhP1_2 e) | exact congrArg Value.bool (FP hhP1_2 e)
 refine Zs <| Zs <| Zs <| Zw (.bool false) rfl <| Zw (.bool false) rfl <| cT <| Zt <| dC (v := .bool false) rfl ⟨hB, ?_⟩
 first | exact congrArg Value.bool (HM hhP1_2 e) | exact congrArg Value.bool (FP hhP1_2 e)
theorem zB (c : Cb) (s : Nat) (n : Int) (w : World) (hm : c.m < 256 ∧ c.v < 256) :
    Fn Tryz.prog 87 #[.agg #[.int .u8 (c.m : Int), .int .u8 (c.v : Int)], eT s, .int .i64 n] w fun v w' => v = if pv c.m c.v s n = true then .tuple #[.agg #[.int .u8 ((jL s n c).m : Int), .int .u8 ((jL s n c).v : Int)], .int .i64 0] else .tuple #[.agg #[.int .u8 0, .int .u8 0], .int .i64 1] := by
 refine dq (n := 30) Tryz.func87 rfl rfl (Nat.le_of_ble_eq_true rfl) ?_
 have hB : Below w.heap.size w w := Below.refl _ _
 refine Zr <| Zy (dY (c := #[_, _]) rfl rfl fun G W3 z H a => ?_)
 have I := ZO z hB
 clear z
 replace hB := Ze hB H
 refine Zy (dY (c := #[_, _, _, _]) rfl rfl fun J W6 A B d => ?_)
 have Z := ZO A hB
 clear A
 replace hB := Ze hB B
 replace a := B.at a
 refine Zy (dt jl rfl fun K W9 q r b => ?_)
 have C := ZO q hB
 have t := Zn q a.lt
 clear q
 replace hB := Ze hB r
 replace a := r.at a
 replace d := r.at d
 refine Zw (.int .i64 0) rfl <| cT <| cY fun aa L => Zr <| Zv (db rfl dQ rfl a) <| Zv (db rfl df rfl d) <| Zi rfl <| ZC (vs := [.agg #[_, _], .agg #[_, _, _, _], .int .i64 _]) Ec (mS _ _ _ _ _ (by first | assumption | omega) (by first | assumption | omega)) rfl fun ab ac h M => ?_
 replace hB := Ze hB h
 replace a := h.at a
 replace d := h.at d
 replace b := h.at b
 obtain rfl := M
 refine Zv (eX rfl) <| cT <| ZQ rfl (fun u => ?_) fun u => ?_
 refine Zr <| Zv (ut ) <| Zy (dg rfl rfl dQ rfl b rfl rfl fun ad x N => ?_)
 replace hB := Zg hB x C
 replace a := At.grownNe a t x
 replace d := At.grownAt d b x Dd
 replace b := N
 refine Zw (.int .i64 1) rfl <| cT <| Zt <| fz rfl dQ b rfl (v1 := .int .i64 1) rfl ⟨hB, ?_⟩
 rw [if_neg (by simpa using u)]
 refine c7 <| L _ _ <| cY fun ae O => ?_
 have hw : pv c.m c.v s n = true := by simpa using u
 obtain ⟨hn0, hn8, _, _⟩ := d4.1 (tI hw)
 refine Zr <| Zi rfl <| Zw (.int .i64 0) rfl <| cT <| c9 ?_
 refine dy (σ := (Nat)) [8, 9, 17, 18, 19, 20, 21, 22, 23, 24, 25, 26, 27, 28] (fun i => [(17, .int .i64 (i : Int))]) (fun i W => (Below w.heap.size w W) ∧ (At W J _ 49) ∧ (At W K _ 40) ∧ (At W G #[.int .u8 ((e7 s n c i).m : Int), .int .u8 ((e7 s n c i).v : Int)] 40) ∧ (i ≤ n.toNat) ∧ (True)) (fun i => n.toNat - i) (0) ⟨rfl, trivial⟩ ⟨hB, d, b, a, (Nat.zero_le _), trivial⟩ ?_
 clear hB a d b
 rintro i af ag ⟨hB, d, b, a, hi, _⟩ ah D
 refine Zr <| Zv (dM rfl rfl) <| cT <| cY fun ai P => ZQ rfl (fun Q => ?_) fun Q => ?_
 refine c7 <| P _ _ <| cY fun aj E => c9 <| Zr <| Zi rfl <| Zi rfl <| cT ?_
 have hg := x8 (s := s) (n := n) hm i
 have hle := xe (e7 s n c i).m (i : Int)
 have hle2 : (e7 s n c i).v &&& jN (e7 s n c i).m (i : Int) ≤ (e7 s n c i).v := Nat.and_le_left
 refine Zr <| Zv (db rfl dQ rfl a) <| Zi rfl <| ZC (vs := [.agg #[_, _], .int .i64 _]) Av (kW _ _ _ _ (by first | assumption | omega) (by first | assumption | omega)) rfl fun ak al j R => ?_
 replace hB := Ze hB j
 replace d := j.at d
 replace b := j.at b
 replace a := j.at a
 obtain rfl := R
 refine Zy (dt jl rfl fun ao ap k l e => ?_)
 have S := ZO k hB
 have T := Zn k b.lt
 have F := Zn k a.lt
 clear k
 replace hB := Ze hB l
 replace d := l.at d
 replace b := l.at b
 replace a := l.at a
 refine Zy (dg rfl rfl dQ rfl e rfl rfl fun aq o U => ?_)
 replace hB := Zg hB o S
 replace d := At.grownAt d e o Dd
 replace b := At.grownNe b T o
 replace a := At.grownNe a F o
 replace e := U
 refine cT <| Zr <| Zv (db rfl dQ rfl e) <| Zv (db rfl df rfl d) <| Zi rfl <| ZC (vs := [.agg #[_, _], .agg #[_, _, _, _], .int .i64 _]) Ec (mS _ _ _ _ _ (by first | assumption | omega) (by first | assumption | omega)) rfl fun ar au f V => ?_
 replace hB := Ze hB f
 replace d := f.at d
 replace b := f.at b
 replace a := f.at a
 replace e := f.at e
 obtain rfl := V
 refine cT <| ZQ rfl (fun g => ?_) fun g => ?_
 refine cZ <| Zv (db rfl dQ rfl e) <| Zy (dg rfl rfl dQ rfl a rfl rfl fun av p X => ?_)
 replace hB := Zg hB p I
 replace d := At.grownAt d a p Dd
 replace b := At.grownNe b (Ne.symm t) p
 replace e := At.grownNe e (Ne.symm F) p
 replace a := X
 refine cT <| E _ _ <| cZ <| Zv (dm rfl rfl Om Om) <| Zi rfl <| cT ?_
 exact D _ _ (i + 1) Za ⟨rfl, trivial⟩ ⟨hB, d, b, (by first | (rw [vV g]; exact a) | (rw [wT g]; exact a)), Om, trivial⟩ Zo
 refine c7 <| E _ _ <| cZ <| Zv (dm rfl rfl Om Om) <| Zi rfl <| cT ?_
 exact D _ _ (i + 1) Za ⟨rfl, trivial⟩ ⟨hB, d, b, (by first | (rw [vV g]; exact a) | (rw [wT g]; exact a)), Om, trivial⟩ Zo
 refine dr <| O _ _ <| Zr <| Zv (db rfl dQ rfl a) <| Zy (dg rfl rfl dQ rfl b rfl rfl fun aw y Y => ?_)
 replace hB := Zg hB y C
 replace d := At.grownAt d b y Dd
 replace a := At.grownNe a t y
 replace b := Y
 refine Zw (.int .i64 0) rfl <| cT <| Zt <| fz rfl dQ b rfl (v1 := .int .i64 0) rfl ⟨hB, ?_⟩
 have hin : i = n.toNat := by omega
 subst hin
 rw [if_pos hw]
 rfl
theorem tS (b m u m2 u2 : Nat) (w : World) (hb : At w b #[.int .u8 (m2 : Int), .int .u8 (u2 : Int)] 40) :
    Fn Tryz.prog 96 #[.agg #[.int .u8 (m : Int), .int .u8 (u : Int)], .pointer (some ⟨b, 0, none⟩)] w fun v w' => v = .bool (vH ⟨m, u⟩ ⟨m2, u2⟩) := by
 refine dq (n := 23) Tryz.func96 rfl rfl (Nat.le_of_ble_eq_true rfl) ?_
 have hB : Below w.heap.size w w := Below.refl _ _
 refine Zr <| Zy (dY (c := #[_, _]) rfl rfl fun h W3 f g e => ?_)
 have i := ZO f hB
 clear f
 replace hB := Ze hB g
 refine Zw (.bool false) rfl <| cT <| Zr <| Zf rfl eU <| Zl rfl eb e rfl <| Zf rfl eU <| Zl rfl eb (Below.atI hB hb) rfl <| Zv (dM rfl rfl) <| ZX rfl (fun a => ?_) fun a => ?_
 refine Zs <| Zs <| Zs <| Zs <| Zs <| Zs <| Zs <| Zs <| Zs <| Zs <| Zs <| Zs <| Zw (.bool true) rfl <| Zw (.bool true) rfl ?_
 refine cT <| Zt <| dC (v := .bool true) rfl ⟨hB, ?_⟩
 first | exact congrArg Value.bool (KH a) | exact congrArg Value.bool (Ia a d) | exact congrArg Value.bool (I4 a d)
 refine Zf rfl eU <| Zl rfl eb e rfl <| Zf rfl eU <| Zl rfl eb (Below.atI hB hb) rfl <| Zv (dS rfl rfl) <| ZX rfl (fun d => ?_) fun d => ?_
 refine Zf rfl gw <| Zl rfl eb e rfl <| Zf rfl gw <| Zl rfl eb (Below.atI hB hb) rfl <| Zv (dM rfl rfl) <| Zb rfl <| Zb rfl <| Zb rfl <| cT <| Zt <| dC (v := .bool _) rfl ⟨hB, ?_⟩
 first | exact congrArg Value.bool (KH a) | exact congrArg Value.bool (Ia a d) | exact congrArg Value.bool (I4 a d)
 refine Zs <| Zs <| Zs <| Zs <| Zs <| Zw (.bool false) rfl <| Zw (.bool false) rfl <| Zw (.bool false) rfl <| cT <| Zt <| dC (v := .bool false) rfl ⟨hB, ?_⟩
 first | exact congrArg Value.bool (KH a) | exact congrArg Value.bool (Ia a d) | exact congrArg Value.bool (I4 a d)
theorem xd (x : Value) (l : List Cb) (c : Cb) (w : World) (hl : dN ik 2 w x l) (hn : l.length ≤ 70000) :
    Fn Tryz.prog 60 #[x, .agg #[.int .u8 (c.m : Int), .int .u8 (c.v : Int)]] w fun v w' => dh ik 2 40 w' w.heap.size v (y6 l c) := by
 refine dq (n := 35) Tryz.func60 rfl rfl (Nat.le_of_ble_eq_true rfl) ?_
 have hB : Below w.heap.size w w := Below.refl _ _
 have hC : l.length ≤ jb x := (Sl.eqv hl).2.1
 refine Zr <| Zy (dY (c := #[_, _]) rfl rfl fun h W3 K Q b => ?_)
 have Z := ZO K hB
 clear K
 replace hB := Ze hB Q
 refine Zw (.slice none 0 0) rfl <| cT <| Zr <| Zv (ia (vs := #[.pointer (some ⟨h, 0, none⟩)]) (by simp only [List.map_toArray, List.map_cons, List.map_nil]; rfl)) <| Zw (.func (.func 96) #[] #[.pointer (some ⟨h, 0, none⟩)]) rfl <| cT <| Zr <| Zw x rfl <| Zv (dz (v := x) rfl (Below.slT hB hl) fh) <| Zi rfl <| cT <| cY fun aa L => c9 ?_
 refine dy (σ := (Nat)) [6, 10, 11, 12, 13, 14, 15, 16, 17, 18, 19, 20, 21, 22, 23] (fun i => [(6, .int .i64 (i : Int))]) (fun i W => (Below w.heap.size w W) ∧ (At W h _ 40) ∧ (i ≤ l.length) ∧ (m7 l c l.length = m7 l c i) ∧ (True)) (fun i => i) (l.length) ⟨rfl, trivial⟩ ⟨hB, b, (Nat.le_refl _), rfl, trivial⟩ ?_
 clear hB b
 rintro i ab ac ⟨hB, b, hi, hp, _⟩ ad R
 refine cY fun ae S => Zr <| Zi rfl <| Zv (iE rfl rfl) <| ZX rfl (fun T => ?_) fun T => ?_
 refine Zw (.func (.func 96) #[] #[.pointer (some ⟨h, 0, none⟩)]) rfl <| Zw x rfl <| Zi rfl <| Zv (lf rfl rfl Om Om) <| Zv (dF (v := x) rfl (Below.slT hB hl) rfl fh Om (by first | omega | (simp only [cV, cW, cX, da]; omega))) <| Zv (iy rfl dQ (dN.cell (Below.slT hB hl) gt ⟨0, 0⟩ Om (by first | omega | (simp only [cV, cW, cX, da]; omega)) 0 rfl) (dN.cell (Below.slT hB hl) gt ⟨0, 0⟩ Om (by first | omega | (simp only [cV, cW, cX, da]; omega)) 1 rfl)) ?_
 refine qP (dd := some 19) rfl rfl rfl (kh (q := 96) (first := #[]) (cap := #[.pointer (some ⟨h, 0, none⟩)]) (vs := #[.agg #[_, _], .pointer (some ⟨h, 0, none⟩)]) rfl Pm (by simp only [List.map_toArray, List.map_cons, List.map_nil, List.append_toArray, List.nil_append, List.cons_append]; rfl)) (tS _ _ _ _ _ _ b) (fun af ag M U => ?_)
 replace hB := Ze hB M
 replace b := M.at b
 obtain rfl := U
 refine Zv (eX rfl) <| Zb rfl <| cT <| ZQ rfl (fun p => ?_) fun p => ?_
 refine c7 <| S _ _ <| c9 <| cZ <| Zi rfl <| Zv (lf rfl rfl Om Om) <| Zi rfl <| cT ?_
 exact R _ _ (i - 1) Za ⟨congrArg (Value.int .i64) (by omega : (i : Int) - 1 = ((i - 1 : Nat) : Int)), trivial⟩ ⟨hB, b, Om, (hp.trans (HT Om p)), trivial⟩ Zo
 refine dr <| L _ _ ?_
 have hpos : m7 l c l.length = i := hp.trans (Et (by first | exact .inl (by omega) | exact .inr p))
 have hil : ((i : Nat) : Int).toNat = i := rfl
 refine Zd ep fun V O => ?_
 replace hB := Ze hB O
 replace b := O.at b
 have hS := ep.refl V
 refine Tw 0 x rfl rfl hS <| Ti 1 rfl rfl hS <| Ti 2 rfl rfl hS <| Tk 3 rfl (fun _ hq => mu (v := x) rfl (hq.slT (Below.slT hB hl)) fh rfl rfl Om Om Om) hS ?_
 have B : dN ik 2 w (fZ 2 x 0 i i) ((l.drop 0).take (i - 0)) := dN.part gt hl (by omega) (by omega) (by omega) (by omega)
 refine Tk 4 rfl (fun _ hq => db rfl dQ rfl (hq.at b)) hS <| Tw 6 x rfl rfl hS <| Ti 7 rfl rfl hS <| Tk 8 rfl (fun _ hq => mv (v := x) rfl (hq.slT (Below.slT hB hl)) fh rfl Om Om) hS ?_
 have C : dN ik 2 w (fZ 2 x i l.length (jb x)) ((l.drop i).take (l.length - i)) := dN.part gt hl (by omega) (by omega) (by omega) (by omega)
 refine To 5 rfl (ff (u := .agg #[_, _]) rfl fh jp rfl Dd Dd fun g ah r s D => ⟨.inl (hS.trans s), ?_⟩)
 have E := ZO r hB
 have k := Nat.le_trans (ep.size hS) (Nat.le_of_eq r.symm)
 have X := Zn r b.lt
 clear r
 replace hB := Ze hB s
 replace b := s.at b
 replace hS := hS.trans s
 have F := iL (enc := ik) (a := c) D rfl rfl E
 refine To 9 rfl (eC (v := .slice (some ⟨g, 0, none⟩) 1 1) (v2 := fZ 2 x i l.length (jb x)) rfl rfl fh jp Dd F (Below.slT hB C) (oU) (by have := Below.size hB; omega) (by simp; omega) (by simp; omega) fun G ai H d => ⟨.inl (dA hS H (Nat.le_refl _) (fun j hj => by have e : g = j := Option.some.inj hj; rw [← e]; exact k)), ?_⟩)
 replace hS : ep _ _ := dA hS H (Nat.le_refl _) (fun j hj => by have e : g = j := Option.some.inj hj; rw [← e]; exact k)
 replace d := dh.app (enc := ik) rfl rfl rfl rfl d
 replace hB := ZG hB H F
 clear F
 refine To 10 rfl (jF (N := w.heap.size) (v := fZ 2 x 0 i i) (v2 := G) rfl rfl fh jp (Below.slT hB B) (qR (by simp; omega)) d.sl (by simp) (Below.size hB) (by simp; omega) (by simp; omega) fun o aj t f => ⟨.inl (hS.trans t), ?_⟩)
 replace f := dh.app (enc := ik) rfl rfl rfl rfl f
 replace hB := Ze hB t
 replace d := t.ow d
 replace hS := hS.trans t
 refine Tw 11 o rfl rfl hS <| Td <| Zt <| dC (v := o) rfl ⟨hB, ?_⟩
 have e : (l.drop i).take (l.length - i) = l.drop i := List.take_of_length_le (by simp)
 rw [e] at f
 rw [y6, hpos]
 simpa using f
 refine Zs <| Zs <| Zs <| Zs <| Zs <| Zs <| Zs <| Zs <| Zw (.bool false) rfl <| cT <| dX rfl <| dr <| L _ _ ?_
 have hpos : m7 l c l.length = i := hp.trans (Et (by first | exact .inl (by omega) | exact .inr p))
 have hil : ((i : Nat) : Int).toNat = i := rfl
 refine Zd ep fun Y P => ?_
 replace hB := Ze hB P
 replace b := P.at b
 have hS := ep.refl Y
 refine Tw 0 x rfl rfl hS <| Ti 1 rfl rfl hS <| Ti 2 rfl rfl hS <| Tk 3 rfl (fun _ hq => mu (v := x) rfl (hq.slT (Below.slT hB hl)) fh rfl rfl Om Om Om) hS ?_
 have B : dN ik 2 w (fZ 2 x 0 i i) ((l.drop 0).take (i - 0)) := dN.part gt hl (by omega) (by omega) (by omega) (by omega)
 refine Tk 4 rfl (fun _ hq => db rfl dQ rfl (hq.at b)) hS <| Tw 6 x rfl rfl hS <| Ti 7 rfl rfl hS <| Tk 8 rfl (fun _ hq => mv (v := x) rfl (hq.slT (Below.slT hB hl)) fh rfl Om Om) hS ?_
 have C : dN ik 2 w (fZ 2 x i l.length (jb x)) ((l.drop i).take (l.length - i)) := dN.part gt hl (by omega) (by omega) (by omega) (by omega)
 refine To 5 rfl (ff (u := .agg #[_, _]) rfl fh jp rfl Dd Dd fun g ak y z D => ⟨.inl (hS.trans z), ?_⟩)
 have E := ZO y hB
 have k := Nat.le_trans (ep.size hS) (Nat.le_of_eq y.symm)
 have X := Zn y b.lt
 clear y
 replace hB := Ze hB z
 replace b := z.at b
 replace hS := hS.trans z
 have I := iL (enc := ik) (a := c) D rfl rfl E
 refine To 9 rfl (eC (v := .slice (some ⟨g, 0, none⟩) 1 1) (v2 := fZ 2 x i l.length (jb x)) rfl rfl fh jp Dd I (Below.slT hB C) (oU) (by have := Below.size hB; omega) (by simp; omega) (by simp; omega) fun G al J d => ⟨.inl (dA hS J (Nat.le_refl _) (fun j hj => by have e : g = j := Option.some.inj hj; rw [← e]; exact k)), ?_⟩)
 replace hS : ep _ _ := dA hS J (Nat.le_refl _) (fun j hj => by have e : g = j := Option.some.inj hj; rw [← e]; exact k)
 replace d := dh.app (enc := ik) rfl rfl rfl rfl d
 replace hB := ZG hB J I
 clear I
 refine To 10 rfl (jF (N := w.heap.size) (v := fZ 2 x 0 i i) (v2 := G) rfl rfl fh jp (Below.slT hB B) (qR (by simp; omega)) d.sl (by simp) (Below.size hB) (by simp; omega) (by simp; omega) fun o ao A f => ⟨.inl (hS.trans A), ?_⟩)
 replace f := dh.app (enc := ik) rfl rfl rfl rfl f
 replace hB := Ze hB A
 replace d := A.ow d
 replace hS := hS.trans A
 refine Tw 11 o rfl rfl hS <| Td <| Zt <| dC (v := o) rfl ⟨hB, ?_⟩
 have e : (l.drop i).take (l.length - i) = l.drop i := List.take_of_length_le (by simp)
 rw [e] at f
 rw [y6, hpos]
 simpa using f
end
section
open Go Go.RowKit
theorem w9 : dD Tryz.prog 33 = true := by kernel_rfl
theorem lD : l7 Tryz.prog 97 = some (40, 4) := by kernel_rfl
theorem mE : pm Tryz.prog 40 (fun v => ∃ a : Cb, v = iN a) := by
  refine ou Tryz.underlying40 ?_ ?_ ?_ ?_
  · rintro w _ _ ⟨a, rfl⟩ ⟨c, rfl⟩
    have hg : Tryz.prog.eqGuardType Tryz.prog.depth 40 = false := by kernel_rfl
    exact ⟨_, qV hg (FR rfl rfl), by rw [decide_eq_true_eq]; constructor <;> intro h <;> simpa [iN] using h⟩
  · rintro _ _ ⟨a, rfl⟩ ⟨c, rfl⟩
    exact .inl rfl
  · rintro w em _ ⟨a, rfl⟩
    have h2 : ∀ k, (Instr.checkKey em (k + 1 + 1 + 1) 40 (iN a)).run Tryz.prog w = .ok () w := fun k => by
      simp [iN, Instr.checkKey, part, isAgg, run_underlying Tryz.underlying40, run_underlying Tryz.underlying5]
    exact h2 9997
  · rintro _ ⟨a, rfl⟩
    simp [iN, Instr.sameBits]
theorem Pb : dD Tryz.prog 60 = true := by kernel_rfl
theorem A4 (s : Nat) (n : Int) (w : World) :
    Fn Tryz.prog 35 #[eT s, .int .i64 n] w fun v w' => if vt s n = true then ∃ x, v = .tuple #[x, .int .i64 0] ∧ dh ik 2 40 w' w.heap.size x (eJ s n) else v = .tuple #[.slice none 0 0, .int .i64 1] := by
 refine dq (n := 105) Tryz.func35 rfl rfl (Nat.le_of_ble_eq_true rfl) ?_
 have hB : Below w.heap.size w w := Below.refl _ _
 refine Zr <| Zy (dY (c := #[_, _, _, _]) rfl rfl fun ac W3 aE aV e => ?_)
 have bR := ZO aE hB
 clear aE
 replace hB := Ze hB aV
 refine Zw (.slice none 0 0) rfl <| Zw (.int .i64 0) rfl <| cT <| Zr <| Zi rfl <| ZC w9 (od _ _) rfl fun bS W8 aF aW => ?_
 replace hB := Ze hB aF
 replace e := aF.at e
 obtain ⟨sa, er, rfl, hhP1_1⟩ := qE aW
 refine Zw (.tuple #[.agg #[_, _, _, _], .int .i64 _]) rfl <| Zv (dG rfl) <| Zv (dJ rfl) <| Zy (dt eR rfl fun Z aX aq aG f => ?_)
 have aY := ZO aq hB
 have aZ := Zn aq e.lt
 clear aq
 replace hB := Ze hB aG
 replace e := aG.at e
 replace f : At aX Z #[wv 0 0, wv 0 1, wv 0 2, wv 0 3] 49 := f
 refine Zy (dg rfl rfl df rfl f rfl rfl fun bT aH a0 => ?_)
 replace hB := Zg hB aH aY
 replace e := At.grownNe e aZ aH
 replace f := a0
 refine Zi rfl <| cT <| cY fun bU a1 => Zr <| Zi rfl <| Zv (f4 rfl rfl) <| ZX rfl (fun ag => ?_) fun ag => ?_
 refine Zs <| Zs <| Zs <| Zs <| Zw (.bool true) rfl <| cT <| dB rfl <| Zr <| Zw (.slice none 0 0) rfl <| Zw (.int .i64 1) rfl <| cT <| Zt <| d6 (v := .slice none 0 0) rfl (v1 := .int .i64 1) rfl ⟨hB, ?_⟩
 rw [if_neg (Fw hhP1_1 ag)]
 refine Zv (db rfl df rfl e) <| Zv (db rfl df rfl f) <| ZC (vs := [.agg #[_, _, _, _], .agg #[_, _, _, _]]) qg (iw _ _ _) rfl fun bV bW ar a2 => ?_
 replace hB := Ze hB ar
 replace e := ar.at e
 replace f := ar.at f
 obtain rfl := a2
 refine Zv (eX rfl) <| Zb rfl <| cT <| ZQ rfl (fun au => ?_) fun au => ?_
 refine Zr <| Zw (.slice none 0 0) rfl <| Zw (.int .i64 1) rfl <| cT <| Zt <| d6 (v := .slice none 0 0) rfl (v1 := .int .i64 1) rfl ⟨hB, ?_⟩
 rw [if_neg (ED hhP1_1 ag au)]
 refine c7 <| a1 _ _ ?_
 have hof : vt s n = true := IV hhP1_1 ag au
 obtain ⟨hn0, hn8⟩ := ku hof
 have hll := lh s
 refine Zr <| Zy (gR (enc := iN) (encV := Value.bool) fun ah bX aI av z => ?_)
 have a3 := ZO aI hB
 clear aI
 replace hB := Ze hB av
 replace e := av.at e
 replace f := av.at f
 replace z : dT iN Value.bool _ _ (fx []) := z
 refine Zw (.map (some ah)) rfl <| cT <| cY fun bY a4 => Zr <| Zv (db rfl df rfl e) <| ZC (vs := [.agg #[_, _, _, _]]) wz (mF _ _) rfl fun V bZ ai h => ?_
 have a5 := (Below.size hB)
 replace hB := Ze hB ai
 replace e := ai.at e
 replace f := ai.at f
 replace z := ai.mapT z
 replace h := dh.mono h a5
 refine Zv (dz (v := V) rfl h.sl dw) <| Zw (.int .i64 0) rfl <| cT <| c9 ?_
 refine dy (σ := (Nat) × (List Cb)) [10, 35, 36, 37, 38, 39, 40, 41, 42, 43, 44, 45, 46] (fun (k, ks) => [(35, .int .i64 (k : Int))]) (fun sg W => match sg with | (k, ks) => (Below w.heap.size w W) ∧ (At W ac _ 49) ∧ (At W Z _ 49) ∧ (dh ef 1 3 W w.heap.size V _) ∧ (dT iN Value.bool W ah (fx ks)) ∧ (k ≤ (eq s).length) ∧ (∀ c, c ∈ ks ↔ ∃ j, j < k ∧ c = ⟨2 ^ n.toNat - 1, ((eq s).getD j 0).toNat⟩) ∧ (True)) (fun (k, ks) => (eq s).length - k) ((0, [])) ⟨rfl, trivial⟩ ⟨hB, e, f, h, z, (Nat.zero_le _), (fun c => by simp), trivial⟩ ?_
 clear hB e f z h
 rintro ⟨k, ks⟩ b0 b1 ⟨hB, e, f, h, z, hk, hks, _⟩ b2 a6
 refine Zr <| Zv (dM rfl rfl) <| cT <| cY fun b3 a7 => ZQ rfl (fun a8 => ?_) fun a8 => ?_
 refine c7 <| a7 _ _ <| cY fun b4 a9 => c9 <| Zr <| Zv (dF (v := V) rfl h.sl rfl dw Om (by first | omega | (simp only [cV, cW, cX, da]; omega))) <| Zv (dk (v := .int .i64 _) rfl du (dN.cell h.sl eI 0 Om (by first | omega | (simp only [cV, cW, cX, da]; omega)) 0 rfl)) <| Zi rfl <| cT ?_
 obtain ⟨p, b5, b6, aJ⟩ := lp (s := s) (i := k) (by omega)
 refine cZ <| Zw (.map (some ah)) rfl <| Zi rfl <| Zv (OQ rfl rfl hn0) <| Zv (N0 rfl rfl hn0 hn8) <| Zi rfl <| Zv (jI (m := p) (congrArg (Value.int .i64) aJ) Tryz.underlying3 Tryz.underlying5 (by simp only [d8]; omega)) <| Zv (m3 (h0 := rfl) (k0 := rfl) (h1 := rfl) (k1 := rfl) (c0_0 := .int .u8 _) (c1_0 := .int .u8 _)) ?_
 refine g7 (dd := none) rfl rfl rfl (fL (enc := iN) (encV := Value.bool) (k := ⟨_, _⟩) (v := true) rfl rfl rfl lD mE (fun a => ⟨a, rfl⟩) mM z (fun b7 aj ba => ?_))
 replace hB := Zg hB aj a3
 replace e := At.grownMap e z aj
 replace f := At.grownMap f z aj
 replace h := dh.grownMap h z aj
 replace z := ba
 rw [jz] at z
 refine cT <| a9 _ _ <| cZ <| Zv (dm rfl rfl Om Om) <| Zi rfl <| cT ?_
 exact a6 _ _ ((k + 1, iI ks ⟨2 ^ n.toNat - 1, p⟩)) Za ⟨rfl, trivial⟩ ⟨hB, e, f, h, z, Om, (G4 hks aJ), trivial⟩ (by show (eq s).length - (k + 1) < (eq s).length - k; omega)
 refine dr <| a4 _ _ <| Zr <| Zw (.slice none 0 0) rfl <| cT <| cY fun b8 bb => c9 ?_
 refine dy (σ := (Nat) × (List Cb) × (Value) × (List Cb) × (Nat)) [8, 11, 12, 13, 14, 15, 16, 17, 47, 48, 49, 50, 51, 52, 53, 54, 55, 56, 57, 58, 59, 60, 61, 62, 63, 64, 65, 66, 67, 68, 69, 70, 71, 72, 73, 74, 75, 76, 77, 78, 79, 80, 81, 82, 83, 84, 85, 86, 87, 88, 89, 90, 91, 92, 93, 94, 95, 96, 97, 98, 99, 100, 101, 102, 103] (fun (bn, now, v0, out, t) => [(8, .map (some bn)), (11, v0)]) (fun sg W => match sg with | (bn, now, v0, out, t) => (Below w.heap.size w W) ∧ (At W ac _ 49) ∧ (At W Z _ 49) ∧ (dh ef 1 3 W w.heap.size V _) ∧ (dT iN Value.bool W bn (fx now)) ∧ (dh ik 2 40 W w.heap.size v0 (out)) ∧ (ol s n t now) ∧ (vZ s n t out) ∧ (iU out) ∧ (t ≤ n.toNat + 1) ∧ (True)) (fun (bn, now, v0, out, t) => t) ((ah, ks, .slice none 0 0, [], n.toNat + 1)) ⟨rfl, rfl, trivial⟩ ⟨hB, e, f, h, z, dh.nil, (Bo hof (Hy hks Om)), JA, List.Pairwise.nil, (Nat.le_refl _), trivial⟩ ?_
 clear hB e f h z
 rintro ⟨bn, now, v0, out, t⟩ b9 ca ⟨hB, e, f, h, hmN, ho, hLv, hOut, hRis, ht, _⟩ cb bc
 refine cY fun cc bd => Zr <| Zw (.map (some bn)) rfl <| Zv (IZ rfl lD hmN) <| Zv (iE rfl rfl) <| cT <| ZQ rfl (fun aw => ?_) fun aw => ?_
 refine c7 <| bd _ _ <| c9 ?_
 obtain ⟨t', rfl⟩ := Hh hLv aw
 refine Zr <| Zy (gR (enc := iN) (encV := Value.bool) fun E cd ax aa g => ?_)
 have aK := ZO ax hB
 have ak := Zn ax hmN.lt
 clear ax
 replace hB := Ze hB aa
 replace e := aa.at e
 replace f := aa.at f
 replace h := aa.ow h
 replace hmN := aa.mapT hmN
 replace ho := aa.ow ho
 replace g : dT iN Value.bool _ _ (fx []) := g
 refine Zy (gR (enc := iN) (encV := Value.bool) fun ab ce al X l => ?_)
 have bf := ZO al hB
 have aL := Zn al hmN.lt
 have ay := Zn al g.lt
 clear al
 replace hB := Ze hB X
 replace e := X.at e
 replace f := X.at f
 replace h := X.ow h
 replace hmN := X.mapT hmN
 replace ho := X.ow ho
 replace g := X.mapT g
 replace l : dT iN Value.bool _ _ (fx []) := l
 refine Zw (.map (some E)) rfl <| Zw (.map (some ab)) rfl <| cT <| cY fun cf bg => Zr <| Zw (.map (some bn)) rfl <| Zy (zN rfl lD hmN fun aM cg aN S o => ?_)
 have bh := ZO aN hB
 clear aN
 replace hB := Ze hB S
 replace e := S.at e
 replace f := S.at f
 replace h := S.ow h
 replace hmN := S.mapT hmN
 replace ho := S.ow ho
 replace g := S.mapT g
 replace l := S.mapT l
 refine cT <| c9 ?_
 refine dy (σ := (List Cb) × (List Cb) × (List Cb)) [14, 15, 16, 54, 55, 56, 57, 58, 59, 60, 61, 62, 63, 64, 65, 66, 67, 68, 69, 70, 71, 72, 73, 74, 75, 76, 77, 78, 79, 80, 81, 82, 83, 84, 85, 86, 87, 88, 89] (fun (seen, nl, ml) => []) (fun sg W => match sg with | (seen, nl, ml) => (Below w.heap.size w W) ∧ (At W ac _ 49) ∧ (At W Z _ 49) ∧ (dh ef 1 3 W w.heap.size V _) ∧ (dT iN Value.bool W bn _) ∧ (dh ik 2 40 W w.heap.size v0 _) ∧ (eL iN Value.bool W aM bn (fx now) seen) ∧ (dT iN Value.bool W E (fx nl)) ∧ (dT iN Value.bool W ab (fx ml)) ∧ (∀ d, d ∈ nl ↔ jv now n seen d) ∧ (∀ d, d ∈ ml ↔ gq now n seen d) ∧ (True)) (fun (seen, nl, ml) => (fx now).length - seen.length) (([], [], [])) trivial ⟨hB, e, f, h, hmN, ho, o, g, l, Dg, As, trivial⟩ ?_
 clear hB e f h hmN ho g l o
 rintro ⟨seen, nl, ml⟩ ch ci ⟨hB, e, f, h, hmN, ho, o, g, l, hN, hM, _⟩ cj bi
 refine Zr ?_
 refine g7 (dd := some 54) rfl rfl rfl (Eh rfl o (fun bj => ?_) (fun A ck cl aO cm T bk => ?_))
 refine Zv (wC rfl) <| cT <| cY fun cn co => dX rfl <| dr <| bg _ _ <| cY fun cp bl => ?_
 have hseen := BE o bj
 have hN' := GQ hN hseen
 have hM' := Bg hM hseen
 refine Zr <| Zw (.map (some bn)) rfl <| Zy (zN rfl lD hmN fun bm cq aP N u => ?_)
 have bo := ZO aP hB
 clear aP
 replace hB := Ze hB N
 replace e := N.at e
 replace f := N.at f
 replace h := N.ow h
 replace hmN := N.mapT hmN
 replace ho := N.ow ho
 replace o := N.iterT o
 replace g := N.mapT g
 replace l := N.mapT l
 refine cT <| c9 ?_
 refine dy (σ := (List Cb) × (Value) × (List Cb)) [11, 17, 92, 93, 94, 95, 96, 97, 98, 99, 100, 101, 102] (fun (seen2, v2, out2) => [(11, v2)]) (fun sg W => match sg with | (seen2, v2, out2) => (Below w.heap.size w W) ∧ (At W ac _ 49) ∧ (At W Z _ 49) ∧ (dh ef 1 3 W w.heap.size V _) ∧ (dT iN Value.bool W bn _) ∧ (dT iN Value.bool W E _) ∧ (dT iN Value.bool W ab _) ∧ (eL iN Value.bool W bm bn (fx now) seen2) ∧ (dh ik 2 40 W w.heap.size v2 (out2)) ∧ (∀ c, c ∈ out2 ↔ c ∈ out ∨ (c ∈ seen2 ∧ c ∉ ml)) ∧ (iU out2) ∧ (True)) (fun (seen2, v2, out2) => (fx now).length - seen2.length) (([], v0, out)) ⟨rfl, trivial⟩ ⟨hB, e, f, h, hmN, g, l, u, ho, Pr, hRis, trivial⟩ ?_
 clear hB e f h hmN ho o g l u
 rintro ⟨seen2, v2, out2⟩ cr cs ⟨hB, e, f, h, hmN, g, l, u, B, ad, hR2, _⟩ ct aQ
 refine Zr ?_
 refine g7 (dd := some 92) rfl rfl rfl (Eh rfl u (fun bp => ?_) (fun Y cu cv aR bq U br => ?_))
 refine Zv (wC rfl) <| cT <| cY fun cw cx => dX rfl <| dr <| bl _ _ ?_
 have hseen2 := BE u bp
 refine cZ <| Zw (.map (some E)) rfl <| Zw (.map (some E)) rfl <| cT ?_
 exact bc _ _ ((E, nl, v2, out2, t')) Za ⟨rfl, rfl, trivial⟩ ⟨hB, e, f, h, g, (by exact B), (DE hn8 hLv Om hN'), (Kb hLv hOut hM' (LF ad hseen2)), hR2, Om, trivial⟩ (by show t' < t' + 1; omega)
 replace hB := Zg hB U bo
 replace e := At.grownIter e u U
 replace f := At.grownIter f u U
 replace h := dh.grownIter h u U
 replace hmN := dT.grownIter hmN u U
 replace g := dT.grownIter g u U
 replace l := dT.grownIter l u U
 replace B := dh.grownIter B u U
 replace u := br
 refine Zv (mK rfl) <| cT <| cY fun cy bs => dB rfl <| c7 <| bs _ _ <| c9 ?_
 have hkn := (AH aR).1
 obtain ⟨hkm, hkv⟩ := wP hLv hn8 hkn
 refine Zr <| Zv (zp rfl u aR) <| Zv (dG rfl) <| Zy (dt jl rfl fun bt cz az O C => ?_)
 have bu := ZO az hB
 have bv := dh.neB (b := bt) B (Nat.le_of_eq az.symm)
 clear az
 replace hB := Ze hB O
 replace e := O.at e
 replace f := O.at f
 replace h := O.ow h
 replace hmN := O.mapT hmN
 replace g := O.mapT g
 replace l := O.mapT l
 replace u := O.iterT u
 replace B := O.ow B
 refine Zy (dg rfl rfl dQ rfl C rfl rfl fun cA P bw => ?_)
 replace hB := Zg hB P bu
 replace e := At.grownAt e C P Dd
 replace f := At.grownAt f C P Dd
 replace h := dh.grownAt h C P Dd
 replace hmN := dT.grownAt hmN C P
 replace g := dT.grownAt g C P
 replace l := dT.grownAt l C P
 replace u := eL.grownAt u C P
 replace B := dh.grownAtNe B bv P
 replace C := bw
 refine cT <| Zr <| Zw (.map (some ab)) rfl <| Zv (db rfl dQ rfl C) <| Zv (fV (enc := iN) (encV := Value.bool) (v0 := false) (k := ⟨Y.m, Y.v⟩) rfl rfl lD mE (fun a => ⟨a, rfl⟩) mM ph rfl l) <| Zv (eX rfl) <| cT <| ZQ rfl (fun aA => ?_) fun aA => ?_
 have hsm := Iu hLv hn8 hOut ad (fun c hc => B7 u c (List.mem_cons_of_mem _ hc)) hR2
 refine cZ <| Zw v2 rfl <| Zv (db rfl dQ rfl C) <| ZC (vs := [v2, .agg #[_, _]]) Pb (xd _ _ _ _ B.sl (by first | assumption | omega)) rfl fun aS cB J ao => ?_
 have bx := dh.lt2 B
 have bz := (Below.size hB)
 replace hB := Ze hB J
 replace e := J.at e
 replace f := J.at f
 replace h := J.ow h
 replace hmN := J.mapT hmN
 replace g := J.mapT g
 replace l := J.mapT l
 replace u := J.iterT u
 replace B := J.ow B
 replace C := J.at C
 have cC := eP.new bx ao
 replace ao := dh.mono ao bz
 refine Zw aS rfl <| cT ?_
 exact aQ _ _ ((Y :: seen2, aS, y6 out2 Y)) Za ⟨rfl, trivial⟩ ⟨hB, e, f, h, hmN, g, l, u, (by exact ao), (LM ad (Du aA)), (Bv hR2 (Pq hLv hOut ad hkn bq)), trivial⟩ (by have hle := eL.len_le u; show (fx now).length - (Y :: seen2).length < (fx now).length - seen2.length; simp only [List.length_cons] at hle ⊢; omega)
 refine c7 ?_
 exact aQ _ _ ((Y :: seen2, v2, out2)) Za ⟨rfl, trivial⟩ ⟨hB, e, f, h, hmN, g, l, u, (by exact B), (Ng ad (BK aA)), hR2, trivial⟩ (by have hle := eL.len_le u; show (fx now).length - (Y :: seen2).length < (fx now).length - seen2.length; simp only [List.length_cons] at hle ⊢; omega)
 replace hB := Zg hB T bh
 replace e := At.grownIter e o T
 replace f := At.grownIter f o T
 replace h := dh.grownIter h o T
 replace hmN := dT.grownIter hmN o T
 replace ho := dh.grownIter ho o T
 replace g := dT.grownIter g o T
 replace l := dT.grownIter l o T
 replace o := bk
 refine Zv (mK rfl) <| cT <| cY fun cD bA => dB rfl <| c7 <| bA _ _ <| c9 ?_
 have hkn := (AH aO).1
 obtain ⟨hkm, hkv⟩ := wP hLv hn8 hkn
 refine Zr <| Zv (zp rfl o aO) <| Zv (dG rfl) <| Zy (dt jl rfl fun aT cE aB Q r => ?_)
 have bB := ZO aB hB
 have bC := dh.neB (b := aT) ho (Nat.le_of_eq aB.symm)
 clear aB
 replace hB := Ze hB Q
 replace e := Q.at e
 replace f := Q.at f
 replace h := Q.ow h
 replace hmN := Q.mapT hmN
 replace ho := Q.ow ho
 replace o := Q.iterT o
 replace g := Q.mapT g
 replace l := Q.mapT l
 refine Zy (dg rfl rfl dQ rfl r rfl rfl fun cF R bD => ?_)
 replace hB := Zg hB R bB
 replace e := At.grownAt e r R Dd
 replace f := At.grownAt f r R Dd
 replace h := dh.grownAt h r R Dd
 replace hmN := dT.grownAt hmN r R
 replace ho := dh.grownAtNe ho bC R
 replace o := eL.grownAt o r R
 replace g := dT.grownAt g r R
 replace l := dT.grownAt l r R
 replace r := bD
 refine cT <| Zr <| Zi rfl <| Zw (.int .i64 0) rfl <| cT <| c9 ?_
 refine dy (σ := (Nat) × (List Cb) × (List Cb)) [15, 16, 59, 60, 61, 62, 63, 64, 65, 66, 67, 68, 69, 70, 71, 72, 73, 74, 75, 76, 77, 78, 79, 80, 81, 82, 83, 84, 85, 86, 87, 88, 89] (fun (i, nl2, ml2) => [(59, .int .i64 (i : Int))]) (fun sg W => match sg with | (i, nl2, ml2) => (Below w.heap.size w W) ∧ (At W ac _ 49) ∧ (At W Z _ 49) ∧ (dh ef 1 3 W w.heap.size V _) ∧ (dT iN Value.bool W bn _) ∧ (dh ik 2 40 W w.heap.size v0 _) ∧ (eL iN Value.bool W aM bn _ _) ∧ (At W aT _ 40) ∧ (dT iN Value.bool W E (fx nl2)) ∧ (dT iN Value.bool W ab (fx ml2)) ∧ ((i : Int) ≤ n) ∧ (∀ d, d ∈ nl2 ↔ jv now n seen d ∨ ∃ q, q < i ∧ i9 now A q ∧ d = ji A q) ∧ (∀ d, d ∈ ml2 ↔ gq now n seen d ∨ (d = A ∧ ∃ q, q < i ∧ i9 now A q)) ∧ (True)) (fun (i, nl2, ml2) => n.toNat - i) ((0, nl, ml)) ⟨rfl, trivial⟩ ⟨hB, e, f, h, hmN, ho, o, r, g, l, Om, (GD hN), (AZ hM), trivial⟩ ?_
 clear hB e f h hmN ho o g l r
 rintro ⟨i, nl2, ml2⟩ cG cH ⟨hB, e, f, h, hmN, ho, o, r, g, l, hi, hN2, hM2, _⟩ cI aC
 refine Zr <| Zv (dM rfl rfl) <| cT <| cY fun cJ bE => ZQ rfl (fun bF => ?_) fun bF => ?_
 refine c7 <| bE _ _ <| cY fun cK aD => c9 <| Zr <| Zi rfl <| Zi rfl <| cT ?_
 have h7 := xW (show i < 8 by omega)
 have hd : A.m / 2 ^ i ≤ A.m := Nat.div_le_self _ _
 refine Zd ep fun bG K => ?_
 replace hB := Ze hB K
 replace e := K.at e
 replace f := K.at f
 replace h := K.ow h
 replace hmN := K.mapT hmN
 replace ho := K.ow ho
 replace o := K.iterT o
 replace r := K.at r
 replace g := K.mapT g
 replace l := K.mapT l
 have hS := ep.refl bG
 refine Tf 0 rfl rfl eU hS <| Tk 1 rfl (fun _ hq => dk (v := .int .u8 _) rfl eb (At.cell (hq.at r) rfl)) hS <| Tf 2 rfl rfl gw hS <| Tk 3 rfl (fun _ hq => dk (v := .int .u8 _) rfl eb (At.cell (hq.at r) rfl)) hS <| Ti 4 rfl rfl hS <| Tk 5 rfl (fun _ _ => jU (m := 1) rfl rfl Om (by simp only [IntKind.bits]; omega) (by simp only [d8, Int.toNat_natCast, Nat.one_mul]; omega)) hS <| Tk 6 rfl (fun _ _ => Ib (n := _) rfl rfl rfl (by first | assumption | (simp only [d8]; omega) | (simp only [d8]; decide)) (by simp only [d8, Int.toNat_natCast, Nat.one_mul]; omega)) hS <| Tk 7 rfl (fun _ _ => m3 (h0 := rfl) (k0 := rfl) (h1 := rfl) (k1 := rfl) (c0_0 := .int .u8 _) (c1_0 := .int .u8 _)) hS <| To 8 rfl (dt jl rfl fun bH cL ap F y => ⟨.inl (hS.trans F), ?_⟩)
 have bI := ZO ap hB
 have bJ := dh.neB (b := bH) ho (Nat.le_of_eq ap.symm)
 have bK := Zn ap r.lt
 clear ap
 replace hB := Ze hB F
 replace e := F.at e
 replace f := F.at f
 replace h := F.ow h
 replace hmN := F.mapT hmN
 replace ho := F.ow ho
 replace o := F.iterT o
 replace r := F.at r
 replace g := F.mapT g
 replace l := F.mapT l
 replace hS := hS.trans F
 refine To 9 rfl (dg rfl rfl dQ rfl y rfl rfl fun cM L bL => ⟨.inr (by kernel_rfl), ?_⟩)
 replace hB := Zg hB L bI
 replace e := At.grownAt e y L Dd
 replace f := At.grownAt f y L Dd
 replace h := dh.grownAt h y L Dd
 replace hmN := dT.grownAt hmN y L
 replace ho := dh.grownAtNe ho bJ L
 replace o := eL.grownAt o y L
 replace r := At.grownNe r bK L
 replace g := dT.grownAt g y L
 replace l := dT.grownAt l y L
 replace y := bL
 refine Td <| Zr <| Zf rfl eU <| Zl rfl eb r rfl <| Zi rfl <| Zv (se rfl rfl Om (by simp only [IntKind.bits]; omega)) <| Zv (nV (n := 1) rfl rfl rfl (by simp only [d8, Int.toNat_natCast]; omega) (by first | assumption | (simp only [d8]; omega) | (simp only [d8]; decide))) <| Zv (dS rfl rfl) <| ZX rfl (fun ae => ?_) fun ae => ?_
 refine Zw (.map (some bn)) rfl <| Zv (db rfl dQ rfl y) <| Zv (fV (enc := iN) (encV := Value.bool) (v0 := false) (k := ⟨A.m, A.v ^^^ 1 * 2 ^ ((i : Nat) : Int).toNat⟩) rfl rfl lD mE (fun a => ⟨a, rfl⟩) mM ph rfl hmN) <| Zb rfl <| cT <| ZQ rfl (fun af => ?_) fun af => ?_
 refine gD (fun a b => a.grownBy b (some E)) iC (fun bM I => ?_)
 replace hB := Ze hB I
 replace e := I.at e
 replace f := I.at f
 replace h := I.ow h
 replace hmN := I.mapT hmN
 replace ho := I.ow ho
 replace o := I.iterT o
 replace r := I.at r
 replace g := I.mapT g
 replace l := I.mapT l
 replace y := I.at y
 have aU := g
 have hS := World.grownBy.refl bM (some E)
 refine Tw 0 (.map (some E)) rfl rfl hS <| Tk 1 rfl (fun _ hq => db rfl dQ rfl (At.grownMap r aU hq)) hS <| Ti 2 rfl rfl hS <| Tw 4 (.map (some ab)) rfl rfl hS <| Tk 5 rfl (fun _ hq => db rfl dQ rfl (At.grownMap r aU hq)) hS <| To 3 rfl (TC (vs := [.agg #[_, _], .int .i64 _]) Av (kW _ _ _ _ (by first | assumption | omega) (by first | assumption | omega)) rfl fun cN cO D bN => ⟨.inl (dE hS (ep.grown D (some E))), ?_⟩)
 replace hB := Ze hB D
 replace e := D.at e
 replace f := D.at f
 replace h := D.ow h
 replace hmN := D.mapT hmN
 replace ho := D.ow ho
 replace o := D.iterT o
 replace r := D.at r
 replace g := D.mapT g
 replace l := D.mapT l
 replace y := D.at y
 replace hS := dE hS (ep.grown D (some E))
 obtain rfl := bN
 refine To 6 rfl (Dn (enc := iN) (encV := Value.bool) (v0 := false) (k := (ji A i)) rfl rfl lD mE (fun a => ⟨a, rfl⟩) mM ph rfl g fun cP cQ G bO => ⟨.inl (dE hS G), ?_⟩)
 replace hS := dE hS G
 replace hB := Zg hB G aK
 replace e := At.grownMap e g G
 replace f := At.grownMap f g G
 replace h := dh.grownMap h g G
 replace hmN := dT.grownNe hmN ak G
 replace ho := dh.grownMap ho g G
 replace o := eL.grownMap o g ak G
 replace r := At.grownMap r g G
 replace l := dT.grownNe l (Ne.symm ay) G
 replace y := At.grownMap y g G
 replace g := bO
 refine Tk 7 rfl (fun _ _ => dJ rfl) hS <| To 8 rfl (Aj (encV := Value.bool) (v := true) rfl rfl rfl g fun cR H bP => ⟨.inl (dE hS H), ?_⟩)
 replace hS := dE hS H
 replace hB := Zg hB H aK
 replace e := At.grownMapP e g H
 replace f := At.grownMapP f g H
 replace h := dh.grownMapP h g H
 replace hmN := dT.grownNe hmN ak H
 replace ho := dh.grownMapP ho g H
 replace o := eL.grownMapP o g ak H
 replace r := At.grownMapP r g H
 replace l := dT.grownNe l (Ne.symm ay) H
 replace y := At.grownMapP y g H
 replace g := bP
 rw [jz] at g
 refine To 9 rfl (fL (enc := iN) (encV := Value.bool) (k := A) (v := true) rfl rfl rfl lD mE (fun a => ⟨a, rfl⟩) mM l fun cS M bQ => ⟨.inr (by kernel_rfl), ?_⟩)
 replace hB := Zg hB M bf
 replace e := At.grownMap e l M
 replace f := At.grownMap f l M
 replace h := dh.grownMap h l M
 replace hmN := dT.grownNe hmN aL M
 replace ho := dh.grownMap ho l M
 replace o := eL.grownMap o l aL M
 replace r := At.grownMap r l M
 replace g := dT.grownNe g ay M
 replace y := At.grownMap y l M
 replace l := bQ
 rw [jz] at l
 refine Td <| aD _ _ <| cZ <| Zv (dm rfl rfl Om Om) <| Zi rfl <| cT ?_
 exact aC _ _ ((i + 1, iI nl2 (ji A i), iI ml2 A)) Za ⟨rfl, trivial⟩ ⟨hB, e, f, h, hmN, ho, o, r, g, l, Om, (Ih hN2 (yr ae af)), (CR hM2 (yr ae af)), trivial⟩ (by show n.toNat - (i + 1) < n.toNat - i; omega)
 refine c7 <| aD _ _ <| cZ <| Zv (dm rfl rfl Om Om) <| Zi rfl <| cT ?_
 exact aC _ _ ((i + 1, nl2, ml2)) Za ⟨rfl, trivial⟩ ⟨hB, e, f, h, hmN, ho, o, r, g, l, Om, (x5 hN2 (yp af)), (ue hM2 (yp af)), trivial⟩ (by show n.toNat - (i + 1) < n.toNat - i; omega)
 refine Zs <| Zs <| Zs <| Zw (.bool false) rfl <| cT <| dX rfl <| c7 <| aD _ _ <| cZ <| Zv (dm rfl rfl Om Om) <| Zi rfl <| cT ?_
 exact aC _ _ ((i + 1, nl2, ml2)) Za ⟨rfl, trivial⟩ ⟨hB, e, f, h, hmN, ho, o, r, g, l, Om, (x5 hN2 (yq ae)), (ue hM2 (yq ae)), trivial⟩ (by show n.toNat - (i + 1) < n.toNat - i; omega)
 refine dr ?_
 refine bi _ _ ((A :: seen, nl2, ml2)) ?_ ?_ ?_ ?_
 · repeat (first | exact fG.mask _ _ _ | refine fG.updo ?_ rfl _ | refine fG.updL ?_ _ rfl | refine fG.maskS rfl ?_)
 · exact trivial
 · exact ⟨hB, e, f, h, hmN, ho, o, g, l, (Kt hN2 (by omega)), (DT hM2 (by omega)), trivial⟩
 · have hle := eL.len_le o; show (fx now).length - (A :: seen).length < (fx now).length - seen.length; simp only [List.length_cons] at hle ⊢; omega
 refine dr <| bb _ _ <| Zr <| Zw v0 rfl <| Zw v0 rfl <| Zw (.int .i64 0) rfl <| cT <| Zt <| d6 (v := v0) rfl (v1 := .int .i64 0) rfl ⟨hB, ?_⟩
 obtain rfl : now = [] := D0 aw
 rw [if_pos hof]
 exact ⟨_, rfl, by rw [← MK ht hLv hOut hRis]; exact ho⟩
end
section
open Go Go.RowKit
theorem Ol29_0 {p : Prop} (h : p := by first | omega | (simp only [cV, cW, cX, da, de]; omega)) : p := h
theorem fj : fy Tryz.prog 42 1 = some 2 := by kernel_rfl
theorem Dv : dD Tryz.prog 30 = true := by kernel_rfl
theorem gP : fy Tryz.prog 42 0 = some 0 := by kernel_rfl
theorem fU : fy Tryz.prog 24 0 = some 0 := by kernel_rfl
theorem fE : fy Tryz.prog 24 1 = some 1 := by kernel_rfl
theorem eE : fv Tryz.prog 22 = true := by kernel_rfl
theorem eg : fQ Tryz.prog 22 = some (49, 4, 32) := by kernel_rfl
theorem fS : fy Tryz.prog 24 2 = some 2 := by kernel_rfl
theorem ez : lu Tryz.prog 24 = some 3 := by kernel_rfl
theorem rJ : dD Tryz.prog 18 = true := by kernel_rfl
theorem D2 : dD Tryz.prog 36 = true := by kernel_rfl
theorem ex : lu Tryz.prog 42 = some 3 := by kernel_rfl
theorem OJ : dD Tryz.prog 26 = true := by kernel_rfl
theorem dL : fQ Tryz.prog 29 = some (42, 3, 3) := by kernel_rfl
theorem lk : eO Tryz.prog 42 = some (.agg #[.int .u8 0, .int .u8 0, .int .u8 0]) := by kernel_rfl
theorem g6 : (eO Tryz.prog 42).map (fun z => z.cells.size) = some 3 := by kernel_rfl
theorem Po : dD Tryz.prog 38 = true := by kernel_rfl
theorem tN : dD Tryz.prog 34 = true := by kernel_rfl
theorem Oo : dD Tryz.prog 35 = true := by kernel_rfl
theorem yx : (Tryz.prog.info? 40).map (·.size) = some 2 := by kernel_rfl
theorem kN {f : Nat → Value} {w : World} {d : Option Nat} {ty : TypeId} {ps : String} {af : Array Edge} {g : Option (Nat × Bool)} {x0 x1 : Operand} {c0_0 c0_1 c1_0 : Value} (h0 : dP f x0 = .agg #[c0_0, c0_1]) (h1 : dP f x1 = c1_0) (k1 : c1_0.cells = #[c1_0]) :
    (execOp (dP f) ⟨d, .build 42 #[(0, x0), (1, x1)], ty, ps, af, g⟩).run Tryz.prog w = .ok (.value (.agg #[c0_0, c0_1, c1_0])) w := by
  obtain ⟨i0, hi0, hz0⟩ := Option.bind_eq_some_iff.1 (show (Tryz.prog.info? 42).bind (·.zero) = _ from lk)
  obtain ⟨j5, hj5, hs5⟩ := Option.map_eq_some_iff.1 r7
  obtain ⟨j40, hj40, hs40⟩ := Option.map_eq_some_iff.1 yx
  simp [execOp, h0, h1, k1, Instr.build, zeroValue, typeInfo, sizeOf, hi0, hz0, run_underlying Tryz.underlying42, Instr.fill, fe, hj5, hs5, hj40, hs40]
theorem PX : dD Tryz.prog 37 = true := by kernel_rfl
theorem CQ : dD Tryz.prog 88 = true := by kernel_rfl
theorem A9 {f : Nat → Value} {w : World} {d : Option Nat} {ty : TypeId} {ps : String} {af : Array Edge} {g : Option (Nat × Bool)}    :
    (execOp (dP f) ⟨d, .build 42 #[], ty, ps, af, g⟩).run Tryz.prog w = .ok (.value (.agg #[.int .u8 0, .int .u8 0, .int .u8 0])) w := by
  obtain ⟨i0, hi0, hz0⟩ := Option.bind_eq_some_iff.1 (show (Tryz.prog.info? 42).bind (·.zero) = _ from lk)
  obtain ⟨j5, hj5, hs5⟩ := Option.map_eq_some_iff.1 r7
  obtain ⟨j40, hj40, hs40⟩ := Option.map_eq_some_iff.1 yx
  simp [execOp, Instr.build, zeroValue, typeInfo, sizeOf, hi0, hz0, run_underlying Tryz.underlying42, Instr.fill, fe, hj5, hs5, hj40, hs40]
theorem jy (o i : Nat) (w : World) (ho : o < 256) (hi : i < 8) :
    Fn Tryz.prog 30 #[.int .u8 (o : Int), .int .i64 (i : Int)] w fun v w' => v = .bool (o.testBit i) := by
 refine dq (n := 10) Tryz.func30 rfl rfl (Nat.le_of_ble_eq_true rfl) ?_
 have hB : Below w.heap.size w w := Below.refl _ _
 refine Zr <| Zw (.bool false) rfl <| cT <| Zr <| Zi rfl <| Zv (jI rfl Tryz.underlying5 Tryz.underlying3 (by first | assumption | (simp only [d8]; omega) | (simp only [d8]; decide))) <| Zi rfl <| ZC I1 (lK _ _ _ (by first | assumption | omega) (by first | assumption | omega)) rfl fun c W5 a b => ?_
 replace hB := Ze hB a
 obtain rfl := b
 refine Zv (dS rfl rfl) <| Zb rfl <| cT <| Zt <| dC (v := .bool _) rfl ⟨hB, ?_⟩
 exact congrArg Value.bool IC
theorem pV (m u o outs : Nat) (n : Int) (w : World) (hm : m < 256) (hv : u < 256) (ho : o < 256) :
    Fn Tryz.prog 26 #[.agg #[.int .u8 (m : Int), .int .u8 (u : Int), .int .u8 (o : Int)], .int .i64 n, .int .i64 (outs : Int)] w fun v w' => v = .bool (Qh o outs && d7 m u n) := by
 refine dq (n := 27) Tryz.func26 rfl rfl (Nat.le_of_ble_eq_true rfl) ?_
 have hB : Below w.heap.size w w := Below.refl _ _
 refine Zr <| Zy (dY (c := #[_, _, _]) rfl rfl fun p W3 e q a => ?_)
 have B := ZO e hB
 clear e
 replace hB := Ze hB q
 refine Zw (.bool false) rfl <| cT <| Zr <| Zw (.bool false) rfl <| cT <| cY fun K8 r => Zr <| Zw (.int .i64 0) rfl <| cT <| c9 ?_
 refine dy (σ := (Nat)) [6, 7, 8, 9, 10, 11, 12, 13, 14, 15, 16, 17, 18, 19] (fun k => [(8, .int .i64 (k : Int)), (7, .bool (mZ o k))]) (fun k W => (Below w.heap.size w W) ∧ (At W p _ 42) ∧ (k ≤ 8) ∧ (∀ j, j < k → o.testBit j = true → j < outs) ∧ (True)) (fun k => 8 - k) (0) ⟨rfl, rfl, trivial⟩ ⟨hB, a, Om, eV, trivial⟩ ?_
 clear hB a
 rintro k C D ⟨hB, a, hk, hq, _⟩ E f
 refine cY fun F s => Zr <| Zi rfl <| Zv (dM rfl rfl) <| cT <| ZQ rfl (fun t => ?_) fun t => ?_
 refine c7 <| s _ _ <| cY fun G g => c9 <| Zr <| Zf rfl fj <| Zl rfl eb a rfl <| Zi rfl <| ZC Dv (jy _ _ _ (by first | assumption | omega) (by first | assumption | omega)) rfl fun H I i x => ?_
 replace hB := Ze hB i
 replace a := i.at a
 obtain rfl := x
 refine cT <| ZQ rfl (fun b => ?_) fun b => ?_
 refine cY fun J y => Zr <| Zi rfl <| Zi rfl <| Zv (mV rfl rfl) <| cT <| ZQ rfl (fun z => ?_) fun z => ?_
 refine Zr <| Zw (.bool false) rfl <| cT <| Zt <| dC (v := .bool false) rfl ⟨hB, ?_⟩
 rw [Pz b (by omega), Bool.false_and]
 refine c7 <| y _ _ <| cZ <| Zw (.bool true) rfl <| cT <| g _ _ <| cZ <| Zi rfl <| Zv (dm rfl rfl Om Om) <| Zi rfl <| cT ?_
 exact f _ _ (k + 1) Za ⟨rfl, (by first | exact congrArg Value.bool (Jl b) | exact congrArg Value.bool (Kk b)), trivial⟩ ⟨hB, a, Om, (ek hq (fun _ => by omega)), trivial⟩ Zo
 refine c7 <| g _ _ <| cZ <| Zi rfl <| Zv (dm rfl rfl Om Om) <| Zi rfl <| cT ?_
 exact f _ _ (k + 1) Za ⟨rfl, (by first | exact congrArg Value.bool (Jl b) | exact congrArg Value.bool (Kk b)), trivial⟩ ⟨hB, a, Om, (ek hq (fun h => by rw [h] at b; cases b)), trivial⟩ Zo
 refine dr <| r _ _ <| Zr <| Zb rfl <| ZX rfl (fun d => ?_) fun d => ?_
 refine Zf rfl gP <| Zv (iy rfl dQ (At.cell a rfl) (At.cell a rfl)) <| Zi rfl <| ZC (vs := [.agg #[_, _], .int .i64 _]) P1 (oO _ _ _ _ (by first | assumption | omega) (by first | assumption | omega)) rfl fun K L l A => ?_
 replace hB := Ze hB l
 replace a := l.at a
 obtain rfl := A
 refine Zb rfl <| Zb rfl <| cT <| Zt <| dC (v := .bool _) rfl ⟨hB, ?_⟩
 obtain rfl : k = 8 := by omega
 rw [EK ho hq, d, Bool.true_and]
 refine Zs <| Zs <| Zs <| Zs <| Zw (.bool false) rfl <| Zw (.bool false) rfl <| cT <| Zt <| dC (v := .bool false) rfl ⟨hB, ?_⟩
 obtain rfl : k = 8 := by omega
 rw [EK ho hq, d, Bool.false_and]
theorem gk (S : Sp) (onV mayV : Value) (w : World) (hon : dN gp 4 w onV S.on) (hmay : dN gp 4 w mayV S.may) :
    Fn Tryz.prog 10 #[.agg #[.int .i64 S.n, onV, mayV]] w fun v w' => v = .bool (dO S) := by
 refine dq (n := 65) Tryz.func10 rfl rfl (Nat.le_of_ble_eq_true rfl) ?_
 have hB : Below w.heap.size w w := Below.refl _ _
 refine Zr <| Zy (dY (c := #[_, _, _]) rfl rfl fun r W3 m s a => ?_)
 have M := ZO m hB
 clear m
 replace hB := Ze hB s
 refine Zw (.bool false) rfl <| cT <| cY fun K6 t => Zr <| Zf rfl fU <| Zl rfl du a rfl <| Zv (dM rfl rfl) <| ZX rfl (fun u => ?_) fun u => ?_
 refine Zs <| Zs <| Zs <| Zw (.bool true) rfl <| Zw (.bool true) rfl <| Zs <| Zs <| Zs <| Zs <| Zw (.bool true) rfl <| Zw (.bool true) rfl <| Zs <| Zs <| Zs ?_
 refine Zs <| Zw (.bool true) rfl <| Zw (.bool true) rfl <| Zs <| Zs <| Zs <| Zs <| Zs <| Zs <| Zs <| Zw (.bool true) rfl <| cT <| dB rfl <| Zr ?_
 refine Zw (.bool false) rfl <| cT <| Zt <| dC (v := .bool false) rfl ⟨hB, ?_⟩
 exact mn Om
 refine Zf rfl fU <| Zl rfl du a rfl <| Zv (iE rfl rfl) <| Zb rfl <| ZX rfl (fun x => ?_) fun x => ?_
 refine Zs <| Zs <| Zs <| Zs <| Zw (.bool true) rfl <| Zw (.bool true) rfl <| Zs <| Zs <| Zs <| Zs <| Zw (.bool true) rfl <| Zw (.bool true) rfl <| Zs <| Zs ?_
 refine Zs <| Zs <| Zs <| Zs <| Zs <| Zw (.bool true) rfl <| cT <| dB rfl <| Zr <| Zw (.bool false) rfl <| cT <| Zt <| dC (v := .bool false) rfl ⟨hB, ?_⟩
 exact mn Om
 refine Zf rfl fE <| ZL onV rfl eE a rfl <| Zv (dz (v := onV) rfl (Below.slT hB hon) eg) <| Zv (dM rfl rfl) <| Zb rfl <| ZX rfl (fun y => ?_) fun y => ?_
 refine Zs <| Zs <| Zs <| Zs <| Zw (.bool true) rfl <| Zw (.bool true) rfl <| Zs <| Zs <| Zs <| Zs <| Zs <| Zs <| Zs <| Zw (.bool true) rfl ?_
 refine cT <| dB rfl <| Zr <| Zw (.bool false) rfl <| cT <| Zt <| dC (v := .bool false) rfl ⟨hB, ?_⟩
 exact mn Om
 refine Zf rfl fE <| ZL onV rfl eE a rfl <| Zv (dz (v := onV) rfl (Below.slT hB hon) eg) <| Zv (iE rfl rfl) <| Zb rfl <| ZX rfl (fun z => ?_) fun z => ?_
 refine Zs <| Zs <| Zs <| Zs <| Zs <| Zs <| Zs <| Zw (.bool true) rfl <| cT <| dB rfl <| Zr <| Zw (.bool false) rfl <| cT <| Zt ?_
 refine dC (v := .bool false) rfl ⟨hB, ?_⟩
 exact mn Om
 refine Zf rfl fS <| ZL mayV rfl eE a rfl <| Zv (dz (v := mayV) rfl (Below.slT hB hmay) eg) <| Zf rfl fE <| ZL onV rfl eE a rfl <| Zv (dz (v := onV) rfl (Below.slT hB hon) eg) <| Zv (f4 rfl rfl) <| Zb rfl <| cT <| ZQ rfl (fun A => ?_) fun A => ?_
 refine Zr <| Zw (.bool false) rfl <| cT <| Zt <| dC (v := .bool false) rfl ⟨hB, ?_⟩
 exact mn Om
 refine c7 <| t _ _ <| cY fun N B => Zr <| Zw (.int .i64 0) rfl <| cT <| c9 ?_
 refine dy (σ := (Nat)) [2, 3, 33, 34, 35, 36, 37, 38, 39, 40, 41, 42, 43, 44, 45, 46, 47, 48, 49, 50, 51, 52, 53, 54, 55, 56, 57, 58, 59, 60, 61, 62, 63, 64] (fun k => [(3, .int .i64 (k : Int))]) (fun k W => (Below w.heap.size w W) ∧ (At W r _ 24) ∧ (k ≤ S.on.length) ∧ (∀ q, q < k → eA (AA S q) (jq S q) = true ∧ eA (jq S q) (fo S.n.toNat) = true) ∧ (True)) (fun k => S.on.length - k) (0) ⟨rfl, trivial⟩ ⟨hB, a, (Nat.zero_le _), eV, trivial⟩ ?_
 clear hB a
 rintro k O P ⟨hB, a, hk, hq, _⟩ Q C
 refine cY fun R D => Zr <| Zi rfl <| Zf rfl fE <| ZL onV rfl eE a rfl <| Zv (dz (v := onV) rfl (Below.slT hB hon) eg) <| Zv (dM rfl rfl) <| cT <| ZQ rfl (fun E => ?_) fun E => ?_
 refine c7 <| D _ _ <| cY fun T F => c9 ?_
 have h0 : 0 ≤ S.n := by omega
 have h8 : S.n ≤ 8 := by omega
 refine Zd ep fun G o => ?_
 replace hB := Ze hB o
 replace a := o.at a
 have hS := ep.refl G
 refine Tf 0 rfl rfl fE hS <| Tk 1 rfl (fun _ hq => dk (v := onV) rfl eE (At.cell (hq.at a) rfl)) hS <| Ti 2 rfl rfl hS <| Tk 3 rfl (fun _ hq => dF (v := onV) rfl (hq.slT (Below.slT hB hon)) rfl eg Om Ol29_0) hS <| Tk 4 rfl (fun _ hq => fw rfl df (dN.cell (hq.slT (Below.slT hB hon)) dI 0 Om Ol29_0 0 rfl) (dN.cell (hq.slT (Below.slT hB hon)) dI 0 Om Ol29_0 1 rfl) (dN.cell (hq.slT (Below.slT hB hon)) dI 0 Om Ol29_0 2 rfl) (dN.cell (hq.slT (Below.slT hB hon)) dI 0 Om Ol29_0 3 rfl)) hS <| Tf 5 rfl rfl fS hS <| Tk 6 rfl (fun _ hq => dk (v := mayV) rfl eE (At.cell (hq.at a) rfl)) hS <| Ti 7 rfl rfl hS <| Tk 8 rfl (fun _ hq => dF (v := mayV) rfl (hq.slT (Below.slT hB hmay)) rfl eg Om Ol29_0) hS <| Tk 9 rfl (fun _ hq => fw rfl df (dN.cell (hq.slT (Below.slT hB hmay)) dI 0 Om Ol29_0 0 rfl) (dN.cell (hq.slT (Below.slT hB hmay)) dI 0 Om Ol29_0 1 rfl) (dN.cell (hq.slT (Below.slT hB hmay)) dI 0 Om Ol29_0 2 rfl) (dN.cell (hq.slT (Below.slT hB hmay)) dI 0 Om Ol29_0 3 rfl)) hS <| To 10 rfl (TC (vs := [.agg #[_, _, _, _], .agg #[_, _, _, _]]) Kw (kw _ _ _) rfl fun U V g H => ⟨.inl (hS.trans g), ?_⟩)
 have d := hB
 have p := a
 replace hB := Ze hB g
 replace a := g.at a
 replace hS := hS.trans g
 obtain rfl := H
 refine Tk 11 rfl (fun _ _ => eX rfl) hS <| Tx 12 rfl (fun _ _ => kZ (v := .bool _) rfl) hS (fun j => ?_) fun j => ?_
 refine Tp 13 rfl hS <| Tp 14 rfl hS <| Tp 15 rfl hS <| Tp 16 rfl hS <| Tp 17 rfl hS <| Tp 18 rfl hS <| Tp 19 rfl hS <| Tp 20 rfl hS <| Tp 21 rfl hS <| Tp 22 rfl hS <| Tp 23 rfl hS <| Tw 24 (.bool true) rfl rfl hS <| Td <| dB rfl ?_
 refine Zr <| Zw (.bool false) rfl <| cT <| Zt <| dC (v := .bool false) rfl ⟨hB, ?_⟩
 exact vr (k := k) Om (fun h => Bool.noConfusion (h.1.symm.trans (i6 j)))
 refine Tf 13 rfl rfl fS hS <| Tk 14 rfl (fun _ hq => dk (v := mayV) rfl eE (At.cell (hq.at p) rfl)) hS <| Ti 15 rfl rfl hS <| Tk 16 rfl (fun _ hq => dF (v := mayV) rfl (hq.slT (Below.slT d hmay)) rfl eg Om Ol29_0) hS <| Tk 17 rfl (fun _ hq => fw rfl df (dN.cell (hq.slT (Below.slT d hmay)) dI 0 Om Ol29_0 0 rfl) (dN.cell (hq.slT (Below.slT d hmay)) dI 0 Om Ol29_0 1 rfl) (dN.cell (hq.slT (Below.slT d hmay)) dI 0 Om Ol29_0 2 rfl) (dN.cell (hq.slT (Below.slT d hmay)) dI 0 Om Ol29_0 3 rfl)) hS <| Tf 18 rfl rfl fU hS <| Tk 19 rfl (fun _ hq => dk (v := .int .i64 _) rfl du (At.cell (hq.at p) rfl)) hS <| To 20 rfl (TC H5 (lY _ _ (by first | assumption | omega) (by first | assumption | omega)) rfl fun I X i b => ⟨.inl (hS.trans i), ?_⟩)
 have J := (Below.size hB)
 replace hB := Ze hB i
 replace a := i.at a
 replace hS := hS.trans i
 replace b := dh.mono b J
 refine To 21 rfl (TC (vs := [I]) JO (lR _ _ _ b.sl (cX _)) rfl fun Y Z e K => ⟨.inl (hS.trans e), ?_⟩)
 replace hB := Ze hB e
 replace a := e.at a
 replace b := e.ow b
 replace hS := hS.trans e
 obtain rfl := K
 refine To 22 rfl (TC (vs := [.agg #[_, _, _, _], .agg #[_, _, _, _]]) Kw (kw _ _ _) rfl fun aa ab f L => ⟨.inl (hS.trans f), ?_⟩)
 replace hB := Ze hB f
 replace a := f.at a
 replace b := f.ow b
 replace hS := hS.trans f
 obtain rfl := L
 refine Tk 23 rfl (fun _ _ => eX rfl) hS <| Ty 24 rfl rfl hS <| Td <| ZQ rfl (fun l => ?_) fun l => ?_
 refine Zr <| Zw (.bool false) rfl <| cT <| Zt <| dC (v := .bool false) rfl ⟨hB, ?_⟩
 exact vr (k := k) Om (fun h => Bool.noConfusion (h.2.symm.trans ((t9 h8).symm.trans (i6 l))))
 refine c7 <| F _ _ <| cZ <| Zi rfl <| Zv (dm rfl rfl Om Om) <| Zi rfl <| cT ?_
 exact C _ _ (k + 1) Za ⟨rfl, trivial⟩ ⟨hB, a, Om, (ek hq ⟨ic j, by rw [← t9 h8]; exact ic l⟩), trivial⟩ Zo
 refine dr <| B _ _ <| Zr <| Zw (.bool true) rfl <| cT <| Zt <| dC (v := .bool true) rfl ⟨hB, ?_⟩
 obtain rfl : k = S.on.length := by omega
 exact EU Om hq
theorem iR (S : Sp) (onV mayV : Value) (w : World) (hon : dN gp 4 w onV S.on) (hmay : dN gp 4 w mayV S.may) :
    Fn Tryz.prog 18 #[.agg #[.int .i64 S.n, onV, mayV]] w fun v w' => v = .bool (dO S) := by
 refine dq (n := 63) Tryz.func18 rfl rfl (Nat.le_of_ble_eq_true rfl) ?_
 have hB : Below w.heap.size w w := Below.refl _ _
 refine Zr <| Zy (dY (c := #[_, _, _]) rfl rfl fun A W3 s B a => ?_)
 have ab := ZO s hB
 clear s
 replace hB := Ze hB B
 refine Zw (.bool false) rfl <| cT <| Zr <| Zf rfl fU <| Zl rfl du a rfl <| ZC w9 (od _ _) rfl fun ac W8 t C => ?_
 replace hB := Ze hB t
 replace a := t.at a
 obtain ⟨sa, er, rfl, hhP1_2⟩ := qE C
 refine Zw (.tuple #[.agg #[_, _, _, _], .int .i64 _]) rfl <| Zv (dG rfl) <| Zv (dJ rfl) <| Zy (dt eR rfl fun u D x y b => ?_)
 have E := ZO x hB
 clear x
 replace hB := Ze hB y
 replace a := y.at a
 replace b : At D u #[wv 0 0, wv 0 1, wv 0 2, wv 0 3] 49 := b
 refine Zy (dg rfl rfl df rfl b rfl rfl fun ad z F => ?_)
 replace hB := Zg hB z E
 replace a := At.grownAt a b z Dd
 replace b := F
 refine Zi rfl <| cT <| cY fun ae G => Zr <| Zi rfl <| Zv (f4 rfl rfl) <| ZX rfl (fun j => ?_) fun j => ?_
 refine Zs <| Zs <| Zs <| Zs <| Zw (.bool true) rfl <| Zw (.bool true) rfl <| Zs <| Zs <| Zs <| Zs <| Zw (.bool true) rfl <| Zw (.bool true) rfl <| Zs <| Zs ?_
 refine Zs <| Zs <| Zs <| Zs <| Zs <| Zw (.bool true) rfl <| cT <| dB rfl <| Zr <| Zw (.bool false) rfl <| cT <| Zt <| dC (v := .bool false) rfl ⟨hB, ?_⟩
 exact mn (fun h => Qd hhP1_2 j ⟨h.1, h.2.1⟩)
 refine Zf rfl fE <| ZL onV rfl eE a rfl <| Zv (dz (v := onV) rfl (Below.slT hB hon) eg) <| Zv (dM rfl rfl) <| Zb rfl <| ZX rfl (fun H => ?_) fun H => ?_
 refine Zs <| Zs <| Zs <| Zs <| Zw (.bool true) rfl <| Zw (.bool true) rfl <| Zs <| Zs <| Zs <| Zs <| Zs <| Zs <| Zs <| Zw (.bool true) rfl ?_
 refine cT <| dB rfl <| Zr <| Zw (.bool false) rfl <| cT <| Zt <| dC (v := .bool false) rfl ⟨hB, ?_⟩
 exact mn Om
 refine Zf rfl fE <| ZL onV rfl eE a rfl <| Zv (dz (v := onV) rfl (Below.slT hB hon) eg) <| Zv (iE rfl rfl) <| Zb rfl <| ZX rfl (fun I => ?_) fun I => ?_
 refine Zs <| Zs <| Zs <| Zs <| Zs <| Zs <| Zs <| Zw (.bool true) rfl <| cT <| dB rfl <| Zr <| Zw (.bool false) rfl <| cT <| Zt ?_
 refine dC (v := .bool false) rfl ⟨hB, ?_⟩
 exact mn Om
 refine Zf rfl fE <| ZL onV rfl eE a rfl <| Zv (dz (v := onV) rfl (Below.slT hB hon) eg) <| Zf rfl fS <| ZL mayV rfl eE a rfl <| Zv (dz (v := mayV) rfl (Below.slT hB hmay) eg) <| Zv (f4 rfl rfl) <| Zb rfl <| cT <| ZQ rfl (fun J => ?_) fun J => ?_
 refine Zr <| Zw (.bool false) rfl <| cT <| Zt <| dC (v := .bool false) rfl ⟨hB, ?_⟩
 exact mn Om
 refine c7 <| G _ _ <| cY fun af K => ?_
 obtain ⟨h0, h8, rfl⟩ := xv hhP1_2 j
 refine Zr <| Zf rfl fE <| ZL onV rfl eE a rfl <| Zv (dz (v := onV) rfl (Below.slT hB hon) eg) <| Zw (.int .i64 0) rfl <| cT <| c9 ?_
 refine dy (σ := (Nat)) [2, 5, 6, 39, 40, 41, 42, 43, 44, 45, 46, 47, 48, 49, 50, 51, 52, 53, 54, 55, 56, 57, 58, 59, 60, 61, 62] (fun k => [(39, .int .i64 (k : Int))]) (fun k W => (Below w.heap.size w W) ∧ (At W A _ 24) ∧ (At W u _ 49) ∧ (k ≤ S.on.length) ∧ (∀ q, q < k → eA (AA S q) (jq S q) = true ∧ eA (jq S q) (fo S.n.toNat) = true) ∧ (True)) (fun k => S.on.length - k) (0) ⟨rfl, trivial⟩ ⟨hB, a, b, (Nat.zero_le _), eV, trivial⟩ ?_
 clear hB a b
 rintro k ag ah ⟨hB, a, b, hk, hq, _⟩ ai L
 refine Zr <| Zv (dM rfl rfl) <| cT <| cY fun aj M => ZQ rfl (fun N => ?_) fun N => ?_
 refine c7 <| M _ _ <| cY fun ak O => c9 <| Zr <| Zi rfl <| Zv (dF (v := onV) rfl (Below.slT hB hon) rfl eg Om Ol29_0) <| Zv (fw rfl df (dN.cell (Below.slT hB hon) dI 0 Om Ol29_0 0 rfl) (dN.cell (Below.slT hB hon) dI 0 Om Ol29_0 1 rfl) (dN.cell (Below.slT hB hon) dI 0 Om Ol29_0 2 rfl) (dN.cell (Below.slT hB hon) dI 0 Om Ol29_0 3 rfl)) <| Zy (dt eR rfl fun P Q l m d => ?_)
 have R := ZO l hB
 have T := Zn l b.lt
 clear l
 replace hB := Ze hB m
 replace a := m.at a
 replace b := m.at b
 replace d : At Q P #[wv 0 0, wv 0 1, wv 0 2, wv 0 3] 49 := d
 refine Zi rfl <| Zy (dg rfl rfl df rfl d rfl rfl fun al o U => ?_)
 replace hB := Zg hB o R
 replace a := At.grownAt a d o Dd
 replace b := At.grownNe b T o
 replace d := U
 refine cT <| Zd ep fun V i => ?_
 replace hB := Ze hB i
 replace a := i.at a
 replace b := i.at b
 replace d := i.at d
 have hS := ep.refl V
 refine Tk 0 rfl (fun _ hq => db rfl df rfl (hq.at d)) hS <| Tf 1 rfl rfl fS hS <| Tk 2 rfl (fun _ hq => dk (v := mayV) rfl eE (At.cell (hq.at a) rfl)) hS <| Ti 3 rfl rfl hS <| Tk 4 rfl (fun _ hq => dF (v := mayV) rfl (hq.slT (Below.slT hB hmay)) rfl eg Om Ol29_0) hS <| Tk 5 rfl (fun _ hq => fw rfl df (dN.cell (hq.slT (Below.slT hB hmay)) dI 0 Om Ol29_0 0 rfl) (dN.cell (hq.slT (Below.slT hB hmay)) dI 0 Om Ol29_0 1 rfl) (dN.cell (hq.slT (Below.slT hB hmay)) dI 0 Om Ol29_0 2 rfl) (dN.cell (hq.slT (Below.slT hB hmay)) dI 0 Om Ol29_0 3 rfl)) hS <| To 6 rfl (TC (vs := [.agg #[_, _, _, _], .agg #[_, _, _, _]]) qg (iw _ _ _) rfl fun ao ap e X => ⟨.inl (hS.trans e), ?_⟩)
 have g := hB
 have Y := a
 have Z := b
 replace hB := Ze hB e
 replace a := e.at a
 replace b := e.at b
 replace d := e.at d
 replace hS := hS.trans e
 obtain rfl := X
 refine Tk 7 rfl (fun _ _ => eX rfl) hS <| Tx 8 rfl (fun _ _ => kZ (v := .bool _) rfl) hS (fun p => ?_) fun p => ?_
 refine Tp 9 rfl hS <| Tp 10 rfl hS <| Tp 11 rfl hS <| Tp 12 rfl hS <| Tp 13 rfl hS <| Tp 14 rfl hS <| Tp 15 rfl hS <| Tp 16 rfl hS <| Tw 17 (.bool true) rfl rfl hS <| Td <| dB rfl <| Zr <| Zw (.bool false) rfl <| cT ?_
 refine Zt <| dC (v := .bool false) rfl ⟨hB, ?_⟩
 exact vr (k := k) Om (fun h => Bool.noConfusion (h.1.symm.trans (i6 p)))
 refine Tf 9 rfl rfl fS hS <| Tk 10 rfl (fun _ hq => dk (v := mayV) rfl eE (At.cell (hq.at Y) rfl)) hS <| Ti 11 rfl rfl hS <| Tk 12 rfl (fun _ hq => dF (v := mayV) rfl (hq.slT (Below.slT g hmay)) rfl eg Om Ol29_0) hS <| Tk 13 rfl (fun _ hq => fw rfl df (dN.cell (hq.slT (Below.slT g hmay)) dI 0 Om Ol29_0 0 rfl) (dN.cell (hq.slT (Below.slT g hmay)) dI 0 Om Ol29_0 1 rfl) (dN.cell (hq.slT (Below.slT g hmay)) dI 0 Om Ol29_0 2 rfl) (dN.cell (hq.slT (Below.slT g hmay)) dI 0 Om Ol29_0 3 rfl)) hS <| Tk 14 rfl (fun _ hq => db rfl df rfl (hq.at Z)) hS <| To 15 rfl (TC (vs := [.agg #[_, _, _, _], .agg #[_, _, _, _]]) qg (iw _ _ _) rfl fun aq ar f aa => ⟨.inl (hS.trans f), ?_⟩)
 replace hB := Ze hB f
 replace a := f.at a
 replace b := f.at b
 replace d := f.at d
 replace hS := hS.trans f
 obtain rfl := aa
 refine Tk 16 rfl (fun _ _ => eX rfl) hS <| Ty 17 rfl rfl hS <| Td <| ZQ rfl (fun r => ?_) fun r => ?_
 refine Zr <| Zw (.bool false) rfl <| cT <| Zt <| dC (v := .bool false) rfl ⟨hB, ?_⟩
 exact vr (k := k) Om (fun h => Bool.noConfusion (h.2.symm.trans (i6 r)))
 refine c7 <| O _ _ <| cZ <| Zv (dm rfl rfl Om Om) <| Zi rfl <| cT ?_
 exact L _ _ (k + 1) Za ⟨rfl, trivial⟩ ⟨hB, a, b, Om, (ek hq ⟨ic p, ic r⟩), trivial⟩ Zo
 refine dr <| K _ _ <| Zr <| Zw (.bool true) rfl <| cT <| Zt <| dC (v := .bool true) rfl ⟨hB, ?_⟩
 obtain rfl : k = S.on.length := by omega
 exact EU Om hq
theorem oM (S : Sp) (onV mayV : Value) (c : Cb) (w : World) (hon : dN gp 4 w onV S.on) (hmay : dN gp 4 w mayV S.may) (hc : c.m < 256 ∧ c.v < 256) (hl : S.may.length ≤ 7) :
    Fn Tryz.prog 36 #[.agg #[.int .i64 S.n, onV, mayV], .agg #[.int .u8 (c.m : Int), .int .u8 (c.v : Int)]] w fun v w' => v = .int .u8 ((kO S c : Nat) : Int) := by
 refine dq (n := 27) Tryz.func36 rfl rfl (Nat.le_of_ble_eq_true rfl) ?_
 have hB : Below w.heap.size w w := Below.refl _ _
 refine Zr <| Zy (dY (c := #[_, _, _]) rfl rfl fun s W3 i t a => ?_)
 have F := ZO i hB
 clear i
 replace hB := Ze hB t
 refine Zy (dY (c := #[_, _]) rfl rfl fun u W6 j l b => ?_)
 have G := ZO j hB
 clear j
 replace hB := Ze hB l
 replace a := l.at a
 refine Zw (.int .u8 0) rfl <| cT <| Zr <| Zw (.int .u8 0) rfl <| cT <| cY fun H x => Zr <| Zf rfl fS <| ZL mayV rfl eE a rfl <| Zv (dz (v := mayV) rfl (Below.slT hB hmay) eg) <| Zw (.int .i64 0) rfl <| cT <| c9 ?_
 refine dy (σ := (Nat)) [5, 6, 7, 11, 12, 13, 14, 15, 16, 17, 18, 19, 20, 21, 22, 23, 24, 25] (fun k => [(11, .int .i64 (k : Int)), (5, .int .u8 ((lj S c k : Nat) : Int))]) (fun k W => (Below w.heap.size w W) ∧ (At W s _ 24) ∧ (At W u _ 40) ∧ (k ≤ S.may.length) ∧ (True)) (fun k => S.may.length - k) (0) ⟨rfl, rfl, trivial⟩ ⟨hB, a, b, (Nat.zero_le _), trivial⟩ ?_
 clear hB a b
 rintro k I J ⟨hB, a, b, hk, _⟩ K o
 refine Zr <| Zv (dM rfl rfl) <| cT <| cY fun L y => ZQ rfl (fun z => ?_) fun z => ?_
 refine c7 <| y _ _ <| cY fun M p => c9 <| Zr <| Zi rfl <| Zv (dF (v := mayV) rfl (Below.slT hB hmay) rfl eg Om Ol29_0) <| Zv (fw rfl df (dN.cell (Below.slT hB hmay) dI 0 Om Ol29_0 0 rfl) (dN.cell (Below.slT hB hmay) dI 0 Om Ol29_0 1 rfl) (dN.cell (Below.slT hB hmay) dI 0 Om Ol29_0 2 rfl) (dN.cell (Below.slT hB hmay) dI 0 Om Ol29_0 3 rfl)) <| Zy (dt eR rfl fun A B r g d => ?_)
 have C := ZO r hB
 clear r
 replace hB := Ze hB g
 replace a := g.at a
 replace b := g.at b
 replace d : At B A #[wv 0 0, wv 0 1, wv 0 2, wv 0 3] 49 := d
 refine Zi rfl <| Zy (dg rfl rfl df rfl d rfl rfl fun N h D => ?_)
 replace hB := Zg hB h C
 replace a := At.grownAt a d h Dd
 replace b := At.grownAt b d h Dd
 replace d := D
 refine cT <| Zr <| Zv (db rfl dQ rfl b) <| Zv (db rfl df rfl d) <| Zf rfl fU <| Zl rfl du a rfl <| ZC (vs := [.agg #[_, _], .agg #[_, _, _, _], .int .i64 _]) Ec (mS c.m c.v _ _ _ hc.1 hc.2) rfl fun O P f E => ?_
 replace hB := Ze hB f
 replace a := f.at a
 replace b := f.at b
 replace d := f.at d
 obtain rfl := E
 refine cT <| ZQ rfl (fun e => ?_) fun e => ?_
 have hlt := qF S c k
 have h7 := xW (show k < 8 by omega)
 refine cZ <| Zi rfl <| Zi rfl <| Zv (jU (m := 1) rfl rfl Om (by simp only [IntKind.bits]; omega) (by simp only [d8, Int.toNat_natCast, Nat.one_mul]; omega)) <| Zv (D3 (n := _) rfl rfl rfl (by simp only [d8]; omega) (by simp only [d8, Int.toNat_natCast, Nat.one_mul]; omega)) <| Zi rfl <| cT <| p _ _ <| cZ <| Zv (dm rfl rfl Om Om) <| Zi rfl <| cT ?_
 exact o _ _ (k + 1) Za ⟨rfl, (by first | exact congrArg (fun q : Nat => Value.int .u8 (q : Int)) (Hz e) | exact congrArg (fun q : Nat => Value.int .u8 (q : Int)) (IK e)), trivial⟩ ⟨hB, a, b, Om, trivial⟩ Zo
 refine c7 <| p _ _ <| cZ <| Zv (dm rfl rfl Om Om) <| Zi rfl <| cT ?_
 exact o _ _ (k + 1) Za ⟨rfl, (by first | exact congrArg (fun q : Nat => Value.int .u8 (q : Int)) (Hz e) | exact congrArg (fun q : Nat => Value.int .u8 (q : Int)) (IK e)), trivial⟩ ⟨hB, a, b, Om, trivial⟩ Zo
 refine dr <| x _ _ <| Zr <| Zi rfl <| Zi rfl <| cT <| Zt <| dC (v := .int .u8 _) rfl ⟨hB, ?_⟩
 obtain rfl : k = S.may.length := by omega
 rfl
theorem mN (S : Sp) (onV mayV : Value) (m u o : Nat) (w : World) (hon : dN gp 4 w onV S.on) (hmay : dN gp 4 w mayV S.may) (hm : m < 256) (hv : u < 256) (ho : o < 256) :
    Fn Tryz.prog 88 #[.agg #[.int .i64 S.n, onV, mayV], .agg #[.int .u8 (m : Int), .int .u8 (u : Int), .int .u8 (o : Int)]] w fun v w' => v = .bool (qb S ⟨⟨m, u⟩, o⟩) := by
 refine dq (n := 22) Tryz.func88 rfl rfl (Nat.le_of_ble_eq_true rfl) ?_
 have hB : Below w.heap.size w w := Below.refl _ _
 refine Zr <| Zy (dY (c := #[_, _, _]) rfl rfl fun y W3 j q a => ?_)
 have z := ZO j hB
 clear j
 replace hB := Ze hB q
 refine Zy (dY (c := #[_, _, _]) rfl rfl fun A W6 l p d => ?_)
 have B := ZO l hB
 clear l
 replace hB := Ze hB p
 replace a := p.at a
 refine Zw (.bool false) rfl <| cT <| Zd ep fun r i => ?_
 replace hB := Ze hB i
 replace a := i.at a
 replace d := i.at d
 have hS := ep.refl r
 refine Tk 0 rfl (fun _ hq => db rfl ez rfl (hq.at a)) hS <| To 1 rfl (TC (vs := [.agg #[_, _, _]]) rJ (iR S _ _  _ (Below.slT hB hon) (Below.slT hB hmay) ) rfl fun C D f s => ⟨.inl (hS.trans f), ?_⟩)
 have t := a
 have h := d
 replace hB := Ze hB f
 replace a := f.at a
 replace d := f.at d
 replace hS := hS.trans f
 obtain rfl := s
 refine Tx 2 rfl (fun _ _ => kZ (v := .bool _) rfl) hS (fun b => ?_) fun b => ?_
 refine Tf 3 rfl rfl fj hS <| Tk 4 rfl (fun _ hq => dk (v := .int .u8 _) rfl eb (At.cell (hq.at h) rfl)) hS <| Tk 5 rfl (fun _ _ => iE rfl rfl) hS <| Ty 6 rfl rfl hS <| Tx 7 rfl (fun _ _ => kZ (v := .bool _) rfl) hS (fun e => ?_) fun e => ?_
 refine Tf 8 rfl rfl fj hS <| Tk 9 rfl (fun _ hq => dk (v := .int .u8 _) rfl eb (At.cell (hq.at h) rfl)) hS <| Tk 10 rfl (fun _ hq => db rfl ez rfl (hq.at t)) hS <| Tf 11 rfl rfl gP hS <| Tk 12 rfl (fun _ hq => iy rfl dQ (At.cell (hq.at h) rfl) (At.cell (hq.at h) rfl)) hS <| To 13 rfl (TC (vs := [.agg #[_, _, _], .agg #[_, _]]) D2 (oM S _ _ ⟨m, u⟩ _ (Below.slT hB hon) (Below.slT hB hmay) ⟨hm, hv⟩ (by obtain ⟨_, _, _, h4, h5, _⟩ := d9.1 b; omega)) rfl fun E F g x => ⟨.inl (hS.trans g), ?_⟩)
 replace hB := Ze hB g
 replace a := g.at a
 replace d := g.at d
 replace hS := hS.trans g
 obtain rfl := x
 refine Tk 14 rfl (fun _ _ => pU (n := _) rfl rfl rfl (by first | assumption | (simp only [d8]; omega) | (simp only [d8]; decide)) (by have h1 := qF S ⟨m, u⟩ S.may.length; have h2 := Gi (k := S.may.length) (by obtain ⟨_, _, _, h4, h5, _⟩ := d9.1 b; omega); show lj S ⟨m, u⟩ S.may.length < 256; omega)) hS <| Tk 15 rfl (fun _ _ => dS rfl rfl) hS <| Ty 16 rfl rfl hS <| Ty 17 rfl rfl hS <| Td <| Zt <| dC (v := .bool _) rfl ⟨hB, ?_⟩
 first | exact congrArg Value.bool (KR b e) | exact nI (JJ e) | exact nI (Kc b)
 refine Tp 8 rfl hS <| Tp 9 rfl hS <| Tp 10 rfl hS <| Tp 11 rfl hS <| Tp 12 rfl hS <| Tp 13 rfl hS <| Tp 14 rfl hS <| Tp 15 rfl hS <| Tw 16 (.bool false) rfl rfl hS <| Tw 17 (.bool false) rfl rfl hS <| Td <| Zt <| dC (v := .bool false) rfl ⟨hB, ?_⟩
 first | exact congrArg Value.bool (KR b e) | exact nI (JJ e) | exact nI (Kc b)
 refine Tp 3 rfl hS <| Tp 4 rfl hS <| Tp 5 rfl hS <| Tw 6 (.bool false) rfl rfl hS <| Tw 7 (.bool false) rfl rfl hS <| Tp 8 rfl hS <| Tp 9 rfl hS <| Tp 10 rfl hS <| Tp 11 rfl hS <| Tp 12 rfl hS <| Tp 13 rfl hS <| Tp 14 rfl hS <| Tp 15 rfl hS <| Tw 16 (.bool false) rfl rfl hS ?_
 refine Tw 17 (.bool false) rfl rfl hS <| Td <| Zt <| dC (v := .bool false) rfl ⟨hB, ?_⟩
 first | exact congrArg Value.bool (KR b e) | exact nI (JJ e) | exact nI (Kc b)
theorem xM (m u o m2 u2 o2 : Nat) (w : World) :
    Fn Tryz.prog 38 #[.agg #[.int .u8 (m : Int), .int .u8 (u : Int), .int .u8 (o : Int)], .agg #[.int .u8 (m2 : Int), .int .u8 (u2 : Int), .int .u8 (o2 : Int)]] w fun v w' => v = .bool (AC ⟨⟨m, u⟩, o⟩ ⟨⟨m2, u2⟩, o2⟩) := by
 refine dq (n := 38) Tryz.func38 rfl rfl (Nat.le_of_ble_eq_true rfl) ?_
 have hB : Below w.heap.size w w := Below.refl _ _
 refine Zr <| Zy (dY (c := #[_, _, _]) rfl rfl fun k W3 g i a => ?_)
 have l := ZO g hB
 clear g
 replace hB := Ze hB i
 refine Zy (dY (c := #[_, _, _]) rfl rfl fun p W6 e h b => ?_)
 have q := ZO e hB
 have r := Zn e a.lt
 clear e
 replace hB := Ze hB h
 replace a := h.at a
 refine Zw (.bool false) rfl <| cT <| cY fun K9 j => c9 <| Zr <| Zf rfl fj <| Zl rfl eb a rfl <| Zf rfl fj <| Zl rfl eb b rfl <| Zv (f4 rfl rfl) <| Zb rfl <| cT <| ZQ rfl (fun d => ?_) fun d => ?_
 refine Zr <| Zf rfl fj <| Zl rfl eb a rfl <| Zf rfl fj <| Zl rfl eb b rfl <| Zv (dM rfl rfl) <| Zb rfl <| cT <| Zt <| dC (v := .bool _) rfl ⟨hB, ?_⟩
 exact congrArg Value.bool (Qz d)
 refine Zr <| Zf rfl gP <| Zf rfl eU <| Zl rfl eb a rfl <| Zf rfl gP <| Zf rfl eU <| Zl rfl eb b rfl <| Zv (f4 rfl rfl) <| Zb rfl <| cT <| ZQ rfl (fun f => ?_) fun f => ?_
 refine Zr <| Zf rfl gP <| Zf rfl eU <| Zl rfl eb a rfl <| Zf rfl gP <| Zf rfl eU <| Zl rfl eb b rfl <| Zv (dM rfl rfl) <| Zb rfl <| cT <| Zt <| dC (v := .bool _) rfl ⟨hB, ?_⟩
 exact congrArg Value.bool (Qp d f)
 refine c7 <| j _ _ <| Zr <| Zf rfl gP <| Zf rfl gw <| Zl rfl eb a rfl <| Zf rfl gP <| Zf rfl gw <| Zl rfl eb b rfl <| Zv (dM rfl rfl) <| Zb rfl <| cT <| Zt <| dC (v := .bool _) rfl ?_
 refine ⟨hB, ?_⟩
 exact congrArg Value.bool (Ql d f)
theorem nW (xa : Value) (l : List Rw) (q : Nat) (w : World) (hl : dN fJ 3 w xa l) (hq : dD Tryz.prog q = true) (hdo : ∀ (m u o m2 u2 o2 : Nat) (w : World), Fn Tryz.prog q #[.agg #[.int .u8 (m : Int), .int .u8 (u : Int), .int .u8 (o : Int)], .agg #[.int .u8 (m2 : Int), .int .u8 (u2 : Int), .int .u8 (o2 : Int)]] w fun v w' => v = .bool (AC ⟨⟨m, u⟩, o⟩ ⟨⟨m2, u2⟩, o2⟩)) (hlb : l.length ≤ 2000000) :
    Fn Tryz.prog 37 #[xa, .func (.func q) #[] #[]] w fun v w' => dh fJ 3 42 w' w.heap.size v (ft l l.length) := by
 refine dq (n := 44) Tryz.func37 rfl rfl (Nat.le_of_ble_eq_true rfl) ?_
 have hB : Below w.heap.size w w := Below.refl _ _
 refine Zr <| Zw (.slice none 0 0) rfl <| cT <| Zr <| Zw (.slice none 0 0) rfl <| cT <| cY fun K5 Z => Zr <| Zw xa rfl <| Zv (dz (v := xa) rfl (Below.slT hB hl) dL) <| Zw (.int .i64 0) rfl <| cT <| c9 ?_
 refine dy (σ := (Nat) × (Value)) [5, 7, 8, 11, 12, 13, 14, 15, 16, 17, 18, 19, 20, 21, 22, 23, 24, 25, 26, 27, 28, 29, 30, 31, 32, 33, 34, 35, 36, 37, 38, 39, 40, 41, 42] (fun (k, v0) => [(11, .int .i64 (k : Int)), (5, v0)]) (fun sg W => match sg with | (k, v0) => (Below w.heap.size w W) ∧ (dh fJ 3 42 W w.heap.size v0 (ft l k)) ∧ (k ≤ l.length) ∧ (True)) (fun (k, v0) => l.length - k) ((0, .slice none 0 0)) ⟨rfl, rfl, trivial⟩ ⟨hB, dh.nil, (Nat.zero_le _), trivial⟩ ?_
 clear hB
 rintro ⟨k, v0⟩ au W9 ⟨hB, ho, hk, _⟩ av S
 refine Zr <| Zv (dM rfl rfl) <| cT <| cY fun aw aa => ZQ rfl (fun ab => ?_) fun ab => ?_
 refine c7 <| aa _ _ <| cY fun ax T => c9 ?_
 have hsl := oN l k
 have hC : (ft l k).length ≤ jb v0 := (Sl.eqv ho.sl).2.1
 refine Zr <| Zv (dF (v := xa) rfl (Below.slT hB hl) rfl dL Om Ol29_0) <| Zv (i4 rfl ex (dN.cell (Below.slT hB hl) dU ⟨⟨0, 0⟩, 0⟩ Om Ol29_0 0 rfl) (dN.cell (Below.slT hB hl) dU ⟨⟨0, 0⟩, 0⟩ Om Ol29_0 1 rfl) (dN.cell (Below.slT hB hl) dU ⟨⟨0, 0⟩, 0⟩ Om Ol29_0 2 rfl)) <| Zy (dt lk rfl fun U ay G V c => ?_)
 have ac := ZO G hB
 have ad := dh.neB (b := U) ho (Nat.le_of_eq G.symm)
 clear G
 replace hB := Ze hB V
 replace ho := V.ow ho
 refine Zy (dg rfl rfl ex rfl c rfl rfl fun az X ae => ?_)
 replace hB := Zg hB X ac
 replace ho := dh.grownAtNe ho ad X
 replace c := ae
 refine cT <| Zr <| Zw v0 rfl <| Zv (dz (v := v0) rfl ho.sl dL) <| Zi rfl <| cT <| cY fun aA Y => c9 ?_
 refine dy (σ := (Nat)) [8, 17, 18, 19, 20, 21, 22, 23, 24, 25, 26, 27, 28, 29, 30] (fun i => [(8, .int .i64 (i : Int))]) (fun i W => (Below w.heap.size w W) ∧ (dh fJ 3 42 W w.heap.size v0 _) ∧ (At W U _ 42) ∧ (i ≤ (ft l k).length) ∧ (oG (ft l k) (l.getD k ⟨⟨0, 0⟩, 0⟩) (ft l k).length = oG (ft l k) (l.getD k ⟨⟨0, 0⟩, 0⟩) i) ∧ (True)) (fun i => i) ((ft l k).length) ⟨rfl, trivial⟩ ⟨hB, ho, c, (Nat.le_refl _), rfl, trivial⟩ ?_
 clear hB ho c
 rintro i aB aC ⟨hB, ho, c, hi, hp, _⟩ aD af
 refine cY fun aE ag => Zd ep fun ah H => ?_
 replace hB := Ze hB H
 replace ho := H.ow ho
 replace c := H.at c
 have hS := ep.refl ah
 refine Ti 0 rfl rfl hS <| Tk 1 rfl (fun _ _ => iE rfl rfl) hS <| Tx 2 rfl (fun _ _ => kZ (v := .bool _) rfl) hS (fun ai => ?_) fun ai => ?_
 refine Tw 3 (.func (.func q) #[] #[]) rfl rfl hS <| Tk 4 rfl (fun _ hq => db rfl ex rfl (hq.at c)) hS <| Tw 5 v0 rfl rfl hS <| Ti 6 rfl rfl hS <| Tk 7 rfl (fun _ _ => lf rfl rfl Om Om) hS <| Tk 8 rfl (fun _ hq => dF (v := v0) rfl ((hq.ow ho)).sl rfl dL Om Ol29_0) hS <| Tk 9 rfl (fun _ hq => i4 rfl ex (dN.cell ((hq.ow ho)).sl dU ⟨⟨0, 0⟩, 0⟩ Om Ol29_0 0 rfl) (dN.cell ((hq.ow ho)).sl dU ⟨⟨0, 0⟩, 0⟩ Om Ol29_0 1 rfl) (dN.cell ((hq.ow ho)).sl dU ⟨⟨0, 0⟩, 0⟩ Om Ol29_0 2 rfl)) hS <| To 10 rfl (Yd.call (wM (q := q) rfl hq (v0 := .agg #[_, _, _]) rfl (v1 := .agg #[_, _, _]) rfl) (hdo _ _ _ _ _ _ _) fun aF aG A aj => ⟨.inl (hS.trans A), ?_⟩)
 replace hB := Ze hB A
 replace ho := A.ow ho
 replace c := A.at c
 replace hS := hS.trans A
 obtain rfl := aj
 refine Ty 11 rfl rfl hS <| Td <| ZQ rfl (fun F => ?_) fun F => ?_
 refine c7 <| ag _ _ <| c9 <| cZ <| Zi rfl <| Zv (lf rfl rfl Om Om) <| Zi rfl <| cT ?_
 exact af _ _ (i - 1) Za ⟨congrArg (Value.int .i64) (by omega : (i : Int) - 1 = ((i - 1 : Nat) : Int)), trivial⟩ ⟨hB, ho, c, Om, (hp.trans (Ed Om F)), trivial⟩ Zo
 refine dr <| Y _ _ ?_
 have hpos : oG (ft l k) (l.getD k ⟨⟨0, 0⟩, 0⟩) (ft l k).length = i := hp.trans (yR (by first | exact .inr F | exact .inl (by omega)))
 have hsl := oN l k
 have hC : (ft l k).length ≤ jb v0 := (Sl.eqv ho.sl).2.1
 have hil : ((i : Nat) : Int).toNat = i := rfl
 refine gD ep iC (fun I J => ?_)
 replace hB := Ze hB J
 replace ho := J.ow ho
 replace c := J.at c
 have hS := ep.refl I
 refine Tw 0 v0 rfl rfl hS <| Ti 1 rfl rfl hS <| Ti 2 rfl rfl hS <| Tk 3 rfl (fun _ hq => mu (v := v0) rfl ((hq.ow ho)).sl dL rfl rfl Om Om Om) hS ?_
 have d : dN fJ 3 I (fZ 3 v0 0 i i) (((ft l k).drop 0).take (i - 0)) := dN.part dU ho.sl (by omega) (by omega) (by omega) (by omega)
 refine Tk 4 rfl (fun _ hq => db rfl ex rfl (hq.at c)) hS <| Tw 6 v0 rfl rfl hS <| Ti 7 rfl rfl hS <| Tk 8 rfl (fun _ hq => mv (v := v0) rfl ((hq.ow ho)).sl dL rfl Om Om) hS ?_
 have f : dN fJ 3 I (fZ 3 v0 i (ft l k).length (jb v0)) (((ft l k).drop i).take ((ft l k).length - i)) := dN.part dU ho.sl (by omega) (by omega) (by omega) (by omega)
 refine To 5 rfl (ff (u := .agg #[_, _, _]) rfl dL g6 rfl Dd Dd fun g aH r s K => ⟨.inl (hS.trans s), ?_⟩)
 have L := ZO r hB
 have B := Nat.le_trans (ep.size hS) (Nat.le_of_eq r.symm)
 have ak := dh.neB (b := g) ho (Nat.le_of_eq r.symm)
 have al := Zn r c.lt
 have ao := dN.far (b := g) d (Nat.le_of_eq r.symm)
 have ap := dN.far (b := g) f (Nat.le_of_eq r.symm)
 clear r
 replace hB := Ze hB s
 replace ho := s.ow ho
 replace c := s.at c
 replace d := s.slT d
 replace f := s.slT f
 replace hS := hS.trans s
 have M := iL (enc := fJ) (a := (l.getD k ⟨⟨0, 0⟩, 0⟩)) K rfl rfl L
 refine To 9 rfl (eC (v := .slice (some ⟨g, 0, none⟩) 1 1) (v2 := fZ 3 v0 i (ft l k).length (jb v0)) rfl rfl dL g6 Dd M f (jG) (by have := Below.size hB; omega) (by simp; omega) (by simp; omega) fun O aI C h => ⟨.inl (dA hS C (Nat.le_refl _) (fun j hj => by have e : g = j := Option.some.inj hj; rw [← e]; exact B)), ?_⟩)
 replace hS : ep _ _ := dA hS C (Nat.le_refl _) (fun j hj => by have e : g = j := Option.some.inj hj; rw [← e]; exact B)
 replace h := dh.app (enc := fJ) rfl rfl rfl rfl h
 replace hB := ZG hB C M
 replace d := dN.grownFar d ao C
 replace f := dN.grownFar f ap C
 clear ho M
 refine To 10 rfl (jF (N := w.heap.size) (v := fZ 3 v0 0 i i) (v2 := O) rfl rfl dL g6 d (wQ (by simp; omega)) h.sl (by simp) (Below.size hB) (by simp; omega) (by simp; omega) fun D aJ y p => ⟨.inl (hS.trans y), ?_⟩)
 replace p := dh.app (enc := fJ) rfl rfl rfl rfl p
 replace hB := Ze hB y
 replace d := y.slT d
 replace f := y.slT f
 replace h := y.ow h
 replace hS := hS.trans y
 refine Tw 11 D rfl rfl hS <| Td <| T _ _ <| cZ <| Zv (dm rfl rfl Om Om) <| Zi rfl <| cT ?_
 exact S _ _ ((k + 1, D)) Za ⟨rfl, rfl, trivial⟩ ⟨hB, (by rw [ft, GH, hpos]; have e : ((ft l k).drop i).take ((ft l k).length - i) = (ft l k).drop i := List.take_of_length_le (by simp); rw [e] at p; simpa using p), Om, trivial⟩ (by show l.length - (k + 1) < l.length - k; omega)
 refine Tp 3 rfl hS <| Tp 4 rfl hS <| Tp 5 rfl hS <| Tp 6 rfl hS <| Tp 7 rfl hS <| Tp 8 rfl hS <| Tp 9 rfl hS <| Tp 10 rfl hS <| Tw 11 (.bool false) rfl rfl hS <| Td <| dX rfl <| dr <| Y _ _ ?_
 have hpos : oG (ft l k) (l.getD k ⟨⟨0, 0⟩, 0⟩) (ft l k).length = i := hp.trans (yR (by first | exact .inr F | exact .inl (by omega)))
 have hsl := oN l k
 have hC : (ft l k).length ≤ jb v0 := (Sl.eqv ho.sl).2.1
 have hil : ((i : Nat) : Int).toNat = i := rfl
 refine gD ep iC (fun P Q => ?_)
 replace hB := Ze hB Q
 replace ho := Q.ow ho
 replace c := Q.at c
 have hS := ep.refl P
 refine Tw 0 v0 rfl rfl hS <| Ti 1 rfl rfl hS <| Ti 2 rfl rfl hS <| Tk 3 rfl (fun _ hq => mu (v := v0) rfl ((hq.ow ho)).sl dL rfl rfl Om Om Om) hS ?_
 have d : dN fJ 3 P (fZ 3 v0 0 i i) (((ft l k).drop 0).take (i - 0)) := dN.part dU ho.sl (by omega) (by omega) (by omega) (by omega)
 refine Tk 4 rfl (fun _ hq => db rfl ex rfl (hq.at c)) hS <| Tw 6 v0 rfl rfl hS <| Ti 7 rfl rfl hS <| Tk 8 rfl (fun _ hq => mv (v := v0) rfl ((hq.ow ho)).sl dL rfl Om Om) hS ?_
 have f : dN fJ 3 P (fZ 3 v0 i (ft l k).length (jb v0)) (((ft l k).drop i).take ((ft l k).length - i)) := dN.part dU ho.sl (by omega) (by omega) (by omega) (by omega)
 refine To 5 rfl (ff (u := .agg #[_, _, _]) rfl dL g6 rfl Dd Dd fun g aK t x K => ⟨.inl (hS.trans x), ?_⟩)
 have L := ZO t hB
 have B := Nat.le_trans (ep.size hS) (Nat.le_of_eq t.symm)
 have ak := dh.neB (b := g) ho (Nat.le_of_eq t.symm)
 have al := Zn t c.lt
 have aq := dN.far (b := g) d (Nat.le_of_eq t.symm)
 have ar := dN.far (b := g) f (Nat.le_of_eq t.symm)
 clear t
 replace hB := Ze hB x
 replace ho := x.ow ho
 replace c := x.at c
 replace d := x.slT d
 replace f := x.slT f
 replace hS := hS.trans x
 have R := iL (enc := fJ) (a := (l.getD k ⟨⟨0, 0⟩, 0⟩)) K rfl rfl L
 refine To 9 rfl (eC (v := .slice (some ⟨g, 0, none⟩) 1 1) (v2 := fZ 3 v0 i (ft l k).length (jb v0)) rfl rfl dL g6 Dd R f (jG) (by have := Below.size hB; omega) (by simp; omega) (by simp; omega) fun O aL E h => ⟨.inl (dA hS E (Nat.le_refl _) (fun j hj => by have e : g = j := Option.some.inj hj; rw [← e]; exact B)), ?_⟩)
 replace hS : ep _ _ := dA hS E (Nat.le_refl _) (fun j hj => by have e : g = j := Option.some.inj hj; rw [← e]; exact B)
 replace h := dh.app (enc := fJ) rfl rfl rfl rfl h
 replace hB := ZG hB E R
 replace d := dN.grownFar d aq E
 replace f := dN.grownFar f ar E
 clear ho R
 refine To 10 rfl (jF (N := w.heap.size) (v := fZ 3 v0 0 i i) (v2 := O) rfl rfl dL g6 d (wQ (by simp; omega)) h.sl (by simp) (Below.size hB) (by simp; omega) (by simp; omega) fun D aM z p => ⟨.inl (hS.trans z), ?_⟩)
 replace p := dh.app (enc := fJ) rfl rfl rfl rfl p
 replace hB := Ze hB z
 replace d := z.slT d
 replace f := z.slT f
 replace h := z.ow h
 replace hS := hS.trans z
 refine Tw 11 D rfl rfl hS <| Td <| T _ _ <| cZ <| Zv (dm rfl rfl Om Om) <| Zi rfl <| cT ?_
 exact S _ _ ((k + 1, D)) Za ⟨rfl, rfl, trivial⟩ ⟨hB, (by rw [ft, GH, hpos]; have e : ((ft l k).drop i).take ((ft l k).length - i) = (ft l k).drop i := List.take_of_length_le (by simp); rw [e] at p; simpa using p), Om, trivial⟩ (by show l.length - (k + 1) < l.length - k; omega)
 refine dr <| Z _ _ <| Zr <| Zw v0 rfl <| Zw v0 rfl <| cT <| Zt <| dC (v := v0) rfl ⟨hB, ?_⟩
 obtain rfl : k = l.length := by omega
 exact ho
theorem qz (S : Sp) (onV mayV : Value) (w : World) (hon : dN gp 4 w onV S.on) (hmay : dN gp 4 w mayV S.may) :
    Fn Tryz.prog 14 #[.agg #[.int .i64 S.n, onV, mayV]] w fun v w' => if dO S = true then ∃ x, v = .tuple #[x, .int .i64 0] ∧ dh fJ 3 42 w' w.heap.size x (eK S) else v = .tuple #[.slice none 0 0, .int .i64 1] := by
 refine dq (n := 78) Tryz.func14 rfl rfl (Nat.le_of_ble_eq_true rfl) ?_
 have hB : Below w.heap.size w w := Below.refl _ _
 refine Zr <| Zy (dY (c := #[_, _, _]) rfl rfl fun F W3 Q ad a => ?_)
 have aJ := ZO Q hB
 clear Q
 replace hB := Ze hB ad
 refine Zw (.slice none 0 0) rfl <| Zw (.int .i64 0) rfl <| cT <| cY fun K6 ae => Zr <| Zv (db rfl ez rfl a) <| ZC (vs := [.agg #[_, _, _]]) rJ (iR S _ _  _ (Below.slT hB hon) (Below.slT hB hmay) ) rfl fun aK aL R af => ?_
 replace hB := Ze hB R
 replace a := R.at a
 obtain rfl := af
 refine Zv (eX rfl) <| cT <| ZQ rfl (fun G => ?_) fun G => ?_
 refine Zr <| Zw (.slice none 0 0) rfl <| Zw (.int .i64 1) rfl <| cT <| Zt <| d6 (v := .slice none 0 0) rfl (v1 := .int .i64 1) rfl ⟨hB, ?_⟩
 rw [if_neg (by rw [i6 G]; decide)]
 refine c7 <| ae _ _ ?_
 have hr : dO S = true := ic G
 obtain ⟨h0, h8, h1, h4, h5, hin⟩ := d9.1 hr
 have aM := Gi (k := S.may.length) (by omega)
 have aN := Nat.two_pow_pos S.may.length
 refine Zr <| Zw (.slice none 0 0) rfl <| cT <| cY fun aO ag => Zr <| Zw (.int .i64 1) rfl <| cT <| c9 ?_
 refine dy (σ := (Nat) × (Value)) [4, 5, 6, 7, 8, 9, 10, 12, 16, 17, 18, 19, 20, 21, 22, 23, 24, 25, 26, 27, 28, 29, 30, 31, 32, 33, 34, 35, 36, 37, 38, 39, 40, 41, 42, 43, 44, 45, 46, 47, 48, 49, 50, 51, 52, 53, 54, 55, 56, 57, 58, 59, 60, 61, 62, 63, 64, 65, 66, 67, 68, 69, 70, 71, 72, 73, 74, 75] (fun (o, v0) => [(5, .int .i64 (o : Int)), (4, v0)]) (fun sg W => match sg with | (o, v0) => (Below w.heap.size w W) ∧ (At W F _ 24) ∧ (dh fJ 3 42 W w.heap.size v0 (jT S o)) ∧ (1 ≤ o ∧ o ≤ 2 ^ S.may.length) ∧ (True)) (fun (o, v0) => 2 ^ S.may.length - o) ((1, .slice none 0 0)) ⟨rfl, rfl, trivial⟩ ⟨hB, a, (by rw [show jT S 1 = [] from rfl]; exact dh.nil), Om, trivial⟩ ?_
 clear hB a
 rintro ⟨o, v0⟩ aP aQ ⟨hB, a, ho, hoo, _⟩ aR ah
 refine cY fun aS ai => Zr <| Zi rfl <| Zf rfl fS <| ZL mayV rfl eE a rfl <| Zv (dz (v := mayV) rfl (Below.slT hB hmay) eg) <| Zv (jU (m := 1) rfl rfl Om (by simp only [IntKind.bits]; omega) (by exact sW _ _ (by simp only [md]; omega))) <| Zv (dM rfl rfl) <| cT <| ZQ rfl (fun H => ?_) fun H => ?_
 refine c7 <| ai _ _ <| cY fun aT aj => c9 ?_
 have hol : o < 2 ^ S.may.length := by simp only [Nat.one_mul, Int.toNat_natCast] at H; omega
 have hal := tV (S := S) h8 o
 refine Zr <| Zf rfl fU <| Zl rfl du a rfl <| ZC w9 (od _ _) rfl fun aU aV I ak => ?_
 replace hB := Ze hB I
 replace a := I.at a
 replace ho := I.ow ho
 obtain ⟨sa, er, rfl, hhP7_2⟩ := qE ak
 refine Zw (.tuple #[.agg #[_, _, _, _], .int .i64 _]) rfl <| Zv (dG rfl) <| Zv (dJ rfl) <| Zy (dt eR rfl fun J al T K d => ?_)
 have U := ZO T hB
 clear T
 replace hB := Ze hB K
 replace a := K.at a
 replace ho := K.ow ho
 replace d : At al J #[wv 0 0, wv 0 1, wv 0 2, wv 0 3] 49 := d
 refine Zy (dg rfl rfl df rfl d rfl rfl fun aW L ao => ?_)
 replace hB := Zg hB L U
 replace a := At.grownAt a d L Dd
 replace ho := dh.grownAt ho d L Dd
 replace d := ao
 refine Zi rfl <| cT <| cY fun aX ap => ?_
 obtain ⟨_, _, hsa⟩ := xv hhP7_2 (fun h => h (hhP7_2.elim (fun q => q.2.2.2) (fun q => absurd ⟨h0, h8⟩ q.1)))
 subst hsa
 refine Zr <| Zf rfl fS <| ZL mayV rfl eE a rfl <| Zv (dz (v := mayV) rfl (Below.slT hB hmay) eg) <| Zw (.int .i64 0) rfl <| cT <| c9 ?_
 refine dy (σ := (Nat)) [8, 33, 34, 35, 36, 37, 38, 39, 40, 41, 42, 43, 44, 45, 46, 47, 48] (fun k => [(33, .int .i64 (k : Int))]) (fun k W => (Below w.heap.size w W) ∧ (At W F _ 24) ∧ (dh fJ 3 42 W w.heap.size v0 _) ∧ (At W J #[wv (ld S o k) 0, wv (ld S o k) 1, wv (ld S o k) 2, wv (ld S o k) 3] 49) ∧ (k ≤ S.may.length) ∧ (True)) (fun k => S.may.length - k) (0) ⟨rfl, trivial⟩ ⟨hB, a, ho, d, (Nat.zero_le _), trivial⟩ ?_
 clear hB a ho d
 rintro k aY aZ ⟨hB, a, ho, d, hk, _⟩ a0 V
 refine Zr <| Zv (dM rfl rfl) <| cT <| cY fun a1 aq => ZQ rfl (fun ar => ?_) fun ar => ?_
 refine c7 <| aq _ _ <| cY fun a2 X => c9 <| Zr <| Zi rfl <| Zi rfl <| cT <| Zr <| Zi rfl <| Zi rfl <| Zv (se rfl rfl Om (by simp only [IntKind.bits]; omega)) <| Zv (nV (n := 1) rfl rfl rfl (by simp only [d8]; have := Nat.div_le_self o (2 ^ ((k : Nat) : Int).toNat); omega) Dd) <| Zv (dS rfl rfl) ?_
 refine cT <| ZQ rfl (fun r => ?_) fun r => ?_
 refine gD ep iC (fun au C => ?_)
 replace hB := Ze hB C
 replace a := C.at a
 replace ho := C.ow ho
 replace d := C.at d
 have hS := ep.refl au
 refine Tk 0 rfl (fun _ hq => db rfl df rfl (hq.at d)) hS <| Tf 1 rfl rfl fS hS <| Tk 2 rfl (fun _ hq => dk (v := mayV) rfl eE (At.cell (hq.at a) rfl)) hS <| Ti 3 rfl rfl hS <| Tk 4 rfl (fun _ hq => dF (v := mayV) rfl (hq.slT (Below.slT hB hmay)) rfl eg Om Ol29_0) hS <| Tk 5 rfl (fun _ hq => fw rfl df (dN.cell (hq.slT (Below.slT hB hmay)) dI 0 Om Ol29_0 0 rfl) (dN.cell (hq.slT (Below.slT hB hmay)) dI 0 Om Ol29_0 1 rfl) (dN.cell (hq.slT (Below.slT hB hmay)) dI 0 Om Ol29_0 2 rfl) (dN.cell (hq.slT (Below.slT hB hmay)) dI 0 Om Ol29_0 3 rfl)) hS <| To 6 rfl (TC (vs := [.agg #[_, _, _, _], .agg #[_, _, _, _]]) tN (qU _ _ _) rfl fun a3 a4 j av => ⟨.inl (hS.trans j), ?_⟩)
 replace hB := Ze hB j
 replace a := j.at a
 replace ho := j.ow ho
 replace d := j.at d
 replace hS := hS.trans j
 obtain rfl := av
 refine To 7 rfl (dg rfl rfl df rfl d rfl rfl fun a5 M aw => ⟨.inr (by kernel_rfl), ?_⟩)
 replace hB := Zg hB M U
 replace a := At.grownAt a d M Dd
 replace ho := dh.grownAt ho d M Dd
 replace d := aw
 refine Td <| X _ _ <| cZ <| Zv (dm rfl rfl Om Om) <| Zi rfl <| cT ?_
 exact V _ _ (k + 1) Za ⟨rfl, trivial⟩ ⟨hB, a, ho, (by first | (rw [← Ey (uH r)]; exact d) | (rw [← EA (uU r)]; exact d)), Om, trivial⟩ Zo
 refine c7 <| X _ _ <| cZ <| Zv (dm rfl rfl Om Om) <| Zi rfl <| cT ?_
 exact V _ _ (k + 1) Za ⟨rfl, trivial⟩ ⟨hB, a, ho, (by first | (rw [← Ey (uH r)]; exact d) | (rw [← EA (uU r)]; exact d)), Om, trivial⟩ Zo
 refine dr <| ap _ _ ?_
 obtain rfl : k = S.may.length := by omega
 refine Zr <| Zv (db rfl df rfl d) <| Zf rfl fU <| Zl rfl du a rfl <| ZC (vs := [.agg #[_, _, _, _], .int .i64 _]) Oo (A4 (gf S o) _ _) rfl fun a6 a7 D ax => ?_
 have ay := (Below.size hB)
 replace hB := Ze hB D
 replace a := D.at a
 replace ho := D.ow ho
 replace d := D.at d
 obtain ⟨x_hP14_3, er_hP14_3, l_hP14_3, rfl, ho_hP14_3, hc_hP14_3⟩ := Md ax
 replace ho_hP14_3 := dh.mono ho_hP14_3 ay
 refine Zw (.tuple #[x_hP14_3, .int .i64 _]) rfl <| Zv (dG rfl) <| Zv (dJ rfl) <| Zw x_hP14_3 rfl <| Zi rfl <| cT ?_
 obtain ⟨q2, q3⟩ := hc_hP14_3.elim (fun h => h.2) (fun h => absurd (HZ hr o) (by rw [h.1]; decide))
 subst q2 q3
 have hpl := ui (s := gf S o) h8
 refine Zr <| Zw x_hP14_3 rfl <| Zv (dz (v := x_hP14_3) rfl ho_hP14_3.sl fh) <| Zw (.int .i64 0) rfl <| cT <| c9 ?_
 refine dy (σ := (Nat) × (Value)) [4, 12, 58, 59, 60, 61, 62, 63, 64, 65, 66, 67, 68, 69, 70, 71, 72, 73, 74, 75] (fun (i, v1) => [(58, .int .i64 (i : Int)), (4, v1)]) (fun sg W => match sg with | (i, v1) => (Below w.heap.size w W) ∧ (At W F _ 24) ∧ (At W J _ 49) ∧ (dh ik 2 40 W w.heap.size x_hP14_3 _) ∧ (dh fJ 3 42 W w.heap.size v1 (jT S o ++ iY S o i)) ∧ (i ≤ (eJ (gf S o) S.n).length) ∧ (True)) (fun (i, v1) => (eJ (gf S o) S.n).length - i) ((0, v0)) ⟨rfl, rfl, trivial⟩ ⟨hB, a, d, ho_hP14_3, (by rw [iY, List.append_nil]; exact ho), (Nat.zero_le _), trivial⟩ ?_
 clear hB a ho d ho_hP14_3
 rintro ⟨i, v1⟩ a8 a9 ⟨hB, a, d, ho_hP14_3, f, hi, _⟩ ba Y
 refine Zr <| Zv (dM rfl rfl) <| cT <| cY fun bb az => ZQ rfl (fun aA => ?_) fun aA => ?_
 refine c7 <| az _ _ <| cY fun bc Z => c9 ?_
 have hci : ((eJ (gf S o) S.n).getD i ⟨0, 0⟩).m < 256 ∧ ((eJ (gf S o) S.n).getD i ⟨0, 0⟩).v < 256 := Ht h8 (by omega)
 have hrl := rI S o i
 have hol2 := qF S ((eJ (gf S o) S.n).getD i ⟨0, 0⟩) S.may.length
 refine Zr <| Zv (dF (v := x_hP14_3) rfl ho_hP14_3.sl rfl fh Om Ol29_0) <| Zv (iy rfl dQ (dN.cell ho_hP14_3.sl gt ⟨0, 0⟩ Om Ol29_0 0 rfl) (dN.cell ho_hP14_3.sl gt ⟨0, 0⟩ Om Ol29_0 1 rfl)) <| Zy (dt jl rfl fun aB bd N t g => ?_)
 have aC := ZO N hB
 have aD := dh.neB (b := aB) ho_hP14_3 (Nat.le_of_eq N.symm)
 clear N
 replace hB := Ze hB t
 replace a := t.at a
 replace d := t.at d
 replace ho_hP14_3 := t.ow ho_hP14_3
 replace f := t.ow f
 refine Zy (dg rfl rfl dQ rfl g rfl rfl fun bf y aE => ?_)
 replace hB := Zg hB y aC
 replace a := At.grownAt a g y Dd
 replace d := At.grownAt d g y Dd
 replace ho_hP14_3 := dh.grownAtNe ho_hP14_3 aD y
 replace f := dh.grownAt f g y Dd
 replace g := aE
 refine cT <| Zr <| Zv (db rfl ez rfl a) <| Zv (db rfl dQ rfl g) <| ZC (vs := [.agg #[_, _, _], .agg #[_, _]]) D2 (oM S _ _ ((eJ (gf S o) S.n).getD i ⟨0, 0⟩) _ (Below.slT hB hon) (Below.slT hB hmay) hci Om) rfl fun bg bh l aF => ?_
 replace hB := Ze hB l
 replace a := l.at a
 replace d := l.at d
 replace ho_hP14_3 := l.ow ho_hP14_3
 replace f := l.ow f
 replace g := l.at g
 obtain rfl := aF
 refine Zi rfl <| Zv (jI rfl Tryz.underlying3 Tryz.underlying5 (by simp only [d8]; omega)) <| Zv (dS rfl rfl) <| cT <| ZQ rfl (fun z => ?_) fun z => ?_
 refine cZ <| Zw v1 rfl <| Zv (db rfl dQ rfl g) <| Zi rfl <| Zv (jI rfl Tryz.underlying3 Tryz.underlying5 (by simp only [d8]; omega)) <| Zv (kN (h0 := rfl) (h1 := rfl) (k1 := rfl) (c1_0 := .int .u8 _)) <| Zy (ff (u := .agg #[_, _, _]) rfl dL g6 rfl Dd Dd fun aa bi O p aG => ?_)
 have bj := ZO O hB
 have bk := dh.neB (b := aa) f (Nat.le_of_eq O.symm)
 clear O
 replace hB := Ze hB p
 replace a := p.at a
 replace d := p.at d
 replace ho_hP14_3 := p.ow ho_hP14_3
 replace f := p.ow f
 replace g := p.at g
 refine Zy (eC (v := v1) (v2 := .slice (some ⟨aa, 0, none⟩) 1 1) rfl rfl dL g6 Dd f (fF aG rfl) rfl (by have := Below.size hB; omega) (by first | omega | (simp; omega) | (simp only [cV, cW, cX, da, de]; omega)) (by first | omega | (simp; omega) | (simp only [cV, cW, cX, da, de]; omega)) fun ab bl A E => ?_)
 replace E := dh.snoc (enc := fJ) (x := ⟨(eJ (gf S o) S.n).getD i ⟨0, 0⟩, o⟩) rfl rfl rfl rfl E
 replace hB := ZG hB A f
 replace a := At.grownOw a f A Dd
 replace d := At.grownOw d f A Dd
 replace ho_hP14_3 := dh.grownOw ho_hP14_3 f A Dd
 replace g := At.grownOw g f A Dd
 clear f
 refine Zw ab rfl <| cT <| Z _ _ <| cZ <| Zv (dm rfl rfl Om Om) <| Zi rfl <| cT ?_
 exact Y _ _ ((i + 1, ab)) Za ⟨rfl, rfl, trivial⟩ ⟨hB, a, d, ho_hP14_3, (by first | (rw [← Co (Df z), ← List.append_assoc]; exact E) | (rw [← AW (fun h => z (congrArg Int.ofNat h))]; exact E)), Om, trivial⟩ (by show (eJ (gf S o) S.n).length - (i + 1) < (eJ (gf S o) S.n).length - i; omega)
 refine c7 <| Z _ _ <| cZ <| Zv (dm rfl rfl Om Om) <| Zi rfl <| cT ?_
 exact Y _ _ ((i + 1, v1)) Za ⟨rfl, rfl, trivial⟩ ⟨hB, a, d, ho_hP14_3, (by first | (rw [← Co (Df z), ← List.append_assoc]; exact f) | (rw [← AW (fun h => z (congrArg Int.ofNat h))]; exact f)), Om, trivial⟩ (by show (eJ (gf S o) S.n).length - (i + 1) < (eJ (gf S o) S.n).length - i; omega)
 refine dr <| aj _ _ <| cZ <| Zi rfl <| Zv (dm rfl rfl Om Om) <| Zi rfl <| cT ?_
 exact ah _ _ ((o + 1, v1)) Za ⟨rfl, rfl, trivial⟩ ⟨hB, a, (by rw [← CO Om]; have e : i = (eJ (gf S o) S.n).length := Om; subst e; exact f), Om, trivial⟩ (by show 2 ^ S.may.length - (o + 1) < 2 ^ S.may.length - o; omega)
 refine dr <| ag _ _ ?_
 obtain rfl : o = 2 ^ S.may.length := by simp only [Nat.one_mul, Int.toNat_natCast] at H; omega
 have hal := tV (S := S) h8 (2 ^ S.may.length)
 refine Zr <| Zw v0 rfl <| ZC PX (nW _ (eK S) 38 _ ho.sl Po (fun m u o m2 u2 o2 w => xM m u o m2 u2 o2 w) (show (jT S (2 ^ S.may.length)).length ≤ 2000000 by omega)) rfl fun ac bm P B => ?_
 have aH := dh.lt2 ho
 have aI := (Below.size hB)
 replace hB := Ze hB P
 replace a := P.at a
 replace ho := P.ow ho
 have bn := eP.new aH B
 replace B := dh.mono B aI
 rw [GJ] at B
 refine Zw ac rfl <| Zw (.int .i64 0) rfl <| cT <| Zt <| d6 (v := ac) rfl (v1 := .int .i64 0) rfl ⟨hB, ?_⟩
 rw [if_pos hr]
 exact ⟨_, rfl, B⟩
theorem sI (S : Sp) (onV mayV : Value) (x : Rw) (w : World) (hon : dN gp 4 w onV S.on) (hmay : dN gp 4 w mayV S.may) (hbx : x.c.m < 256 ∧ x.c.v < 256 ∧ x.o < 256) :
    Fn Tryz.prog 47 #[.agg #[.int .i64 S.n, onV, mayV], .agg #[.int .u8 (x.c.m : Int), .int .u8 (x.c.v : Int), .int .u8 (x.o : Int)]] w fun v w' => v = if qb S x = true then .tuple #[.agg #[.int .u8 ((uo S x).c.m : Int), .int .u8 ((uo S x).c.v : Int), .int .u8 ((uo S x).o : Int)], .int .i64 0] else .tuple #[.agg #[.int .u8 0, .int .u8 0, .int .u8 0], .int .i64 1] := by
 refine dq (n := 36) Tryz.func47 rfl rfl (Nat.le_of_ble_eq_true rfl) ?_
 have hB : Below w.heap.size w w := Below.refl _ _
 refine Zr <| Zy (dY (c := #[_, _, _]) rfl rfl fun X W3 R Y b => ?_)
 have aw := ZO R hB
 clear R
 replace hB := Ze hB Y
 refine Zy (dY (c := #[_, _, _]) rfl rfl fun Z W6 T U a => ?_)
 have G := ZO T hB
 clear T
 replace hB := Ze hB U
 replace b := U.at b
 refine Zy (dt lk rfl fun aa W9 H I d => ?_)
 have V := ZO H hB
 have l := Zn H a.lt
 clear H
 replace hB := Ze hB I
 replace b := I.at b
 replace a := I.at a
 refine Zw (.int .i64 0) rfl <| cT <| cY fun ax ab => Zr <| Zv (db rfl ez rfl b) <| Zv (db rfl ex rfl a) <| ZC (vs := [.agg #[_, _, _], .agg #[_, _, _]]) CQ (mN S _ _ _ _ _ _ (Below.slT hB hon) (Below.slT hB hmay) hbx.1 hbx.2.1 hbx.2.2) rfl fun ay az s ac => ?_
 replace hB := Ze hB s
 replace b := s.at b
 replace a := s.at a
 replace d := s.at d
 obtain rfl := ac
 refine Zv (eX rfl) <| cT <| ZQ rfl (fun J => ?_) fun J => ?_
 refine Zr <| Zv (A9 ) <| Zy (dg rfl rfl ex rfl d rfl rfl fun aA K ad => ?_)
 replace hB := Zg hB K V
 replace b := At.grownAt b d K Dd
 replace a := At.grownNe a l K
 replace d := ad
 refine Zw (.int .i64 1) rfl <| cT <| Zt <| fz rfl ex d rfl (v1 := .int .i64 1) rfl ⟨hB, ?_⟩
 rw [if_neg (by rw [show qb S x = false from i6 J]; decide)]
 refine c7 <| ab _ _ <| cY fun aB ae => ?_
 have hi : qb S x = true := ic J
 obtain ⟨h0, h8, h1, h4, h5, hin⟩ := d9.1 (gE.1 hi).1
 refine Zr <| Zf rfl fU <| Zl rfl du b rfl <| Zw (.int .i64 0) rfl <| cT <| c9 ?_
 refine dy (σ := (Nat)) [6, 7, 15, 16, 17, 18, 19, 20, 21, 22, 23, 24, 25, 26, 27, 28, 29] (fun i => [(15, .int .i64 (i : Int))]) (fun i W => (Below w.heap.size w W) ∧ (At W X _ 24) ∧ (At W aa _ 42) ∧ (At W Z #[.int .u8 ((eD S x i).m : Int), .int .u8 ((eD S x i).v : Int), .int .u8 (x.o : Int)] 42) ∧ ((i : Int) ≤ S.n) ∧ (True)) (fun i => S.n.toNat - i) (0) ⟨rfl, trivial⟩ ⟨hB, b, d, a, Om, trivial⟩ ?_
 clear hB b a d
 rintro i aC aD ⟨hB, b, d, a, hi2, _⟩ aE t
 refine Zr <| Zv (dM rfl rfl) <| cT <| cY fun aF af => ZQ rfl (fun ag => ?_) fun ag => ?_
 refine c7 <| af _ _ <| cY fun aG u => c9 ?_
 have hg := tA (S := S) (x := x) ⟨hbx.1, hbx.2.1⟩ i
 have hle := xe (eD S x i).m (i : Int)
 have hle2 : (eD S x i).v &&& jN (eD S x i).m (i : Int) ≤ (eD S x i).v := Nat.and_le_left
 refine Zr <| Zi rfl <| Zi rfl <| cT <| Zd ep fun ah y => ?_
 replace hB := Ze hB y
 replace b := y.at b
 replace d := y.at d
 replace a := y.at a
 have hS := ep.refl ah
 refine Tf 0 rfl rfl gP hS <| Tk 1 rfl (fun _ hq => iy rfl dQ (At.cell (hq.at a) rfl) (At.cell (hq.at a) rfl)) hS <| Ti 2 rfl rfl hS <| Tf 4 rfl rfl fj hS <| Tk 5 rfl (fun _ hq => dk (v := .int .u8 _) rfl eb (At.cell (hq.at a) rfl)) hS ?_
 refine IO 3 7 (by kernel_rfl) rfl rfl rfl rfl rfl rfl rfl rfl (Yd.call (uQ Av (v0 := .agg #[_, _]) rfl (v1 := .int .i64 _) rfl) (kW _ _ (i : Int) _ hg.1 hg.2) (fun ai aH h L => ⟨.inl (hS.trans h), ?_⟩)) (dt lk rfl (fun aj aI z j e => ⟨.inl (hS.trans j), ?_⟩))
 replace hB := Ze hB h
 replace b := h.at b
 replace d := h.at d
 replace a := h.at a
 replace hS := hS.trans h
 obtain rfl := L
 refine Tk 6 rfl (fun _ _ => kN (h0 := rfl) (h1 := rfl) (k1 := rfl) (c1_0 := .int .u8 _)) hS <| To 7 rfl (dt lk rfl fun aj aJ A k e => ⟨.inl (hS.trans k), ?_⟩)
 have M := ZO A hB
 have N := Zn A d.lt
 have p := Zn A a.lt
 clear A
 replace hB := Ze hB k
 replace b := k.at b
 replace d := k.at d
 replace a := k.at a
 replace hS := hS.trans k
 refine To 8 rfl (dg rfl rfl ex rfl e rfl rfl fun aK B ak => ⟨.inr (by kernel_rfl), ?_⟩)
 replace hB := Zg hB B M
 replace b := At.grownAt b e B Dd
 replace d := At.grownNe d N B
 replace a := At.grownNe a p B
 replace e := ak
 refine Td <| Zr <| Zv (db rfl ez rfl b) <| Zv (db rfl ex rfl e) <| ZC (vs := [.agg #[_, _, _], .agg #[_, _, _]]) CQ (mN S _ _ (ji (eD S x i) i).m (ji (eD S x i) i).v x.o _ (Below.slT hB hon) (Below.slT hB hmay) (by show jN (eD S x i).m (i : Int) < 256; omega) (by show (eD S x i).v &&& jN (eD S x i).m (i : Int) < 256; omega) hbx.2.2) rfl fun al aL q O => ?_
 replace hB := Ze hB q
 replace b := q.at b
 replace d := q.at d
 replace a := q.at a
 replace e := q.at e
 obtain rfl := O
 refine cT <| ZQ rfl (fun f => ?_) fun f => ?_
 refine cZ <| Zv (db rfl ex rfl e) <| Zy (dg rfl rfl ex rfl a rfl rfl fun aM C ao => ?_)
 replace hB := Zg hB C G
 replace b := At.grownAt b a C Dd
 replace d := At.grownNe d (Ne.symm l) C
 replace e := At.grownNe e (Ne.symm p) C
 replace a := ao
 refine cT <| u _ _ <| cZ <| Zv (dm rfl rfl Om Om) <| Zi rfl <| cT ?_
 exact t _ _ (i + 1) Za ⟨rfl, trivial⟩ ⟨hB, b, d, (by first | (rw [← vw f]; exact a) | (rw [← vq f]; exact a)), Om, trivial⟩ Zo
 refine c7 <| u _ _ <| cZ <| Zv (dm rfl rfl Om Om) <| Zi rfl <| cT ?_
 exact t _ _ (i + 1) Za ⟨rfl, trivial⟩ ⟨hB, b, d, (by first | (rw [← vw f]; exact a) | (rw [← vq f]; exact a)), Om, trivial⟩ Zo
 have M := ZO z hB
 have N := Zn z d.lt
 have p := Zn z a.lt
 clear z
 replace hB := Ze hB j
 replace b := j.at b
 replace d := j.at d
 replace a := j.at a
 replace hS := hS.trans j
 refine To 3 rfl (TC (vs := [.agg #[_, _], .int .i64 _]) Av (kW _ _ (i : Int) _ hg.1 hg.2) rfl fun ai aN g L => ⟨.inl (hS.trans g), ?_⟩)
 replace hB := Ze hB g
 replace b := g.at b
 replace d := g.at d
 replace a := g.at a
 replace e := g.at e
 replace hS := hS.trans g
 obtain rfl := L
 refine Tk 6 rfl (fun _ _ => kN (h0 := rfl) (h1 := rfl) (k1 := rfl) (c1_0 := .int .u8 _)) hS <| To 8 rfl (dg rfl rfl ex rfl e rfl rfl fun aO D ap => ⟨.inr (by kernel_rfl), ?_⟩)
 replace hB := Zg hB D M
 replace b := At.grownAt b e D Dd
 replace d := At.grownNe d N D
 replace a := At.grownNe a p D
 replace e := ap
 refine Td <| Zr <| Zv (db rfl ez rfl b) <| Zv (db rfl ex rfl e) <| ZC (vs := [.agg #[_, _, _], .agg #[_, _, _]]) CQ (mN S _ _ (ji (eD S x i) i).m (ji (eD S x i) i).v x.o _ (Below.slT hB hon) (Below.slT hB hmay) (by show jN (eD S x i).m (i : Int) < 256; omega) (by show (eD S x i).v &&& jN (eD S x i).m (i : Int) < 256; omega) hbx.2.2) rfl fun al aP r O => ?_
 replace hB := Ze hB r
 replace b := r.at b
 replace d := r.at d
 replace a := r.at a
 replace e := r.at e
 obtain rfl := O
 refine cT <| ZQ rfl (fun f => ?_) fun f => ?_
 refine cZ <| Zv (db rfl ex rfl e) <| Zy (dg rfl rfl ex rfl a rfl rfl fun aQ E aq => ?_)
 replace hB := Zg hB E G
 replace b := At.grownAt b a E Dd
 replace d := At.grownNe d (Ne.symm l) E
 replace e := At.grownNe e (Ne.symm p) E
 replace a := aq
 refine cT <| u _ _ <| cZ <| Zv (dm rfl rfl Om Om) <| Zi rfl <| cT ?_
 exact t _ _ (i + 1) Za ⟨rfl, trivial⟩ ⟨hB, b, d, (by first | (rw [← vw f]; exact a) | (rw [← vq f]; exact a)), Om, trivial⟩ Zo
 refine c7 <| u _ _ <| cZ <| Zv (dm rfl rfl Om Om) <| Zi rfl <| cT ?_
 exact t _ _ (i + 1) Za ⟨rfl, trivial⟩ ⟨hB, b, d, (by first | (rw [← vw f]; exact a) | (rw [← vq f]; exact a)), Om, trivial⟩ Zo
 refine dr <| ae _ _ ?_
 obtain rfl : i = S.n.toNat := by omega
 refine Zr <| Zv (db rfl ez rfl b) <| Zf rfl gP <| Zv (iy rfl dQ (At.cell a rfl) (At.cell a rfl)) <| ZC (vs := [.agg #[_, _, _], .agg #[_, _]]) D2 (oM S _ _ (eD S x S.n.toNat) _ (Below.slT hB hon) (Below.slT hB hmay) (tA ⟨hbx.1, hbx.2.1⟩ _) Om) rfl fun aR aS F ar => ?_
 replace hB := Ze hB F
 replace b := F.at b
 replace d := F.at d
 replace a := F.at a
 obtain rfl := ar
 refine Zf rfl fj <| Zy (eH (v := .int .u8 _) rfl rfl eb rfl a (by simp) fun aT P au => ?_)
 replace hB := Zg hB P G
 replace b := At.grownAt b a P Dd
 replace d := At.grownNe d (Ne.symm l) P
 replace a := au
 replace a : At _ _ #[_, _, _] _ := a
 refine cT <| Zr <| Zv (db rfl ex rfl a) <| Zy (dg rfl rfl ex rfl d rfl rfl fun aU Q av => ?_)
 replace hB := Zg hB Q V
 replace b := At.grownAt b d Q Dd
 replace a := At.grownNe a l Q
 replace d := av
 refine Zw (.int .i64 0) rfl <| cT <| Zt <| fz rfl ex d rfl (v1 := .int .i64 0) rfl ⟨hB, ?_⟩
 rw [if_pos hi]
 rfl
end
section
open Go Go.RowKit
def gF (l : List Rw) : Prop := ∀ x, x ∈ l → x.c.m < 256 ∧ x.c.v < 256 ∧ x.o < 256
theorem gF.get {l : List Rw} (h : gF l) {k : Nat} (hk : k < l.length) : (l.getD k ⟨⟨0, 0⟩, 0⟩).c.m < 256 ∧ (l.getD k ⟨⟨0, 0⟩, 0⟩).c.v < 256 ∧ (l.getD k ⟨⟨0, 0⟩, 0⟩).o < 256 := h _ (dV hk)
theorem KS {S : Sp} {l : List Rw} {k : Nat} (hk : k < l.length) (h : ¬ Ez S (l.getD k ⟨⟨0, 0⟩, 0⟩) = true) : Value.bool false = .bool (oK S l) := nI fun hm => h (kP.1 hm k hk)
theorem QR {S : Sp} {x : Rw} (h : (!d7 x.c.m x.c.v S.n) = true) : ¬ Ez S x = true := fun hk => by
 rw [(jo.1 hk).1] at h; cases h
theorem QC {S : Sp} {x : Rw} (h : (x.o : Int) = 0) : ¬ Ez S x = true := fun hk => by
 have := (jo.1 hk).2.1; omega
theorem Qr {S : Sp} {x : Rw} (h : ((1 * 2 ^ S.on.length : Nat) : Int) ≤ (x.o : Int)) : ¬ Ez S x = true := fun hk => by
 have := (jo.1 hk).2.2
 rw [Nat.one_mul] at h; omega
theorem QW {S : Sp} {x : Rw} (h : (!d7 x.c.m x.c.v S.n) = false) (h2 : ¬ (x.o : Int) = 0) (h3 : ¬ ((1 * 2 ^ S.on.length : Nat) : Int) ≤ (x.o : Int)) : Ez S x = true := by
 rw [Nat.one_mul] at h3
 exact jo.2 ⟨ic h, by omega, by omega⟩
theorem FE {S : Sp} {x : Rw} : (Qh x.o S.on.length && d7 x.c.m x.c.v S.n) = Ez S x := by
 rw [Bool.eq_iff_iff, Bool.and_eq_true, zl, jo]
 exact ⟨fun h => ⟨h.2, h.1⟩, fun h => ⟨h.2, h.1⟩⟩
def xF (l : List Rw) (n out : Int) : Bool := decide (0 ≤ n ∧ n ≤ 8 ∧ 0 ≤ out ∧ out < 4) && l.all fun x => d7 x.c.m x.c.v n
theorem tz {l : List Rw} {n out : Int} : xF l n out = true ↔ (0 ≤ n ∧ n ≤ 8 ∧ 0 ≤ out ∧ out < 4) ∧ ∀ k, k < l.length → d7 (l.getD k ⟨⟨0, 0⟩, 0⟩).c.m (l.getD k ⟨⟨0, 0⟩, 0⟩).c.v n = true := by
 unfold xF
 rw [Bool.and_eq_true, decide_eq_true_eq, List.all_eq_true]
 constructor
 ·rintro ⟨h1, h2⟩; exact ⟨h1, fun k hk => h2 _ (dV hk)⟩
 ·rintro ⟨h1, h2⟩
  refine ⟨h1, fun x hx => ?_⟩
  obtain ⟨k, hk, rfl⟩ := fq (d := ⟨⟨0, 0⟩, 0⟩) hx
  exact h2 k hk
theorem u4 {l : List Rw} {n out : Int} (h : ¬ (0 ≤ n ∧ n ≤ 8 ∧ 0 ≤ out ∧ out < 4)) : ¬ xF l n out = true := fun k => h (tz.1 k).1
theorem OX {l : List Rw} {n out : Int} {k : Nat} (hk : k < l.length) (h : d7 (l.getD k ⟨⟨0, 0⟩, 0⟩).c.m (l.getD k ⟨⟨0, 0⟩, 0⟩).c.v n = false) : ¬ xF l n out = true := fun q => by
 rw [(tz.1 q).2 k hk] at h; cases h
theorem Ms {l : List Rw} {n out : Int} {v : Value} (h : v = if xF l n out = true then .tuple #[eT (mI l n.toNat out.toNat l.length), .int .i64 0] else .tuple #[eT 0, .int .i64 1]) :
  ∃ (sa : Nat) (er : Int), v = .tuple #[eT sa, .int .i64 er] ∧ ((xF l n out = true ∧ sa = mI l n.toNat out.toNat l.length ∧ er = 0) ∨ (xF l n out = false ∧ sa = 0 ∧ er = 1)) := by
 by_cases ho : xF l n out = true
 ·rw [if_pos ho] at h
  exact ⟨_, _, h, .inl ⟨ho, rfl, rfl⟩⟩
 ·rw [if_neg ho] at h
  exact ⟨_, _, h, .inr ⟨by simpa using ho, rfl, rfl⟩⟩
theorem LC {S : Sp} {l : List Rw} {o : Nat} (hr : dO S = true) (hm : oK S l = true) (ho : o < S.on.length) : xF l S.n (o : Int) = true := by
 obtain ⟨h0, h8, h1, h4, h5, _⟩ := d9.1 hr
 exact tz.2 ⟨by omega, fun k hk => (jo.1 (kP.1 hm k hk)).1⟩
theorem P9 {S : Sp} {l : List Rw} (h : dO S = false) : Value.bool false = .bool (gW S l) := nI fun k => by
 rw [(gr.1 k).1] at h; cases h
theorem PG {S : Sp} {l : List Rw} (h : oK S l = false) : Value.bool false = .bool (gW S l) := nI fun k => by
 rw [(gr.1 k).2.1] at h; cases h
theorem O6 {S : Sp} {l : List Rw} {o : Nat} (ho : o < S.on.length) (h : eA (AA S o) (mI l S.n.toNat o l.length) = false) : Value.bool false = .bool (gW S l) := nI fun k => by
 have := (gr.1 k).2.2 o ho
 unfold xQ at this
 rw [h] at this; cases this
theorem Od {S : Sp} {l : List Rw} {o : Nat} (ho : o < S.on.length) (h : eA (mI l S.n.toNat o l.length) (jq S o) = false) : Value.bool false = .bool (gW S l) := nI fun k => by
 have := (gr.1 k).2.2 o ho
 unfold xQ at this
 rw [h, Bool.and_false] at this; cases this
theorem IB {S : Sp} {l : List Rw} {o : Nat} (h1 : eA (AA S o) (mI l S.n.toNat o l.length) = true) (h2 : eA (mI l S.n.toNat o l.length) (jq S o) = true) : xQ S l o = true := by
 unfold xQ; rw [h1, h2]; rfl
def yX (l : List Rw) (p o : Nat) : Bool := l.any fun x => x.o.testBit o && pN x.c.m x.c.v p
theorem sP {l : List Rw} {p o : Nat} : yX l p o = true ↔ ∃ k, k < l.length ∧ ((l.getD k ⟨⟨0, 0⟩, 0⟩).o.testBit o && pN (l.getD k ⟨⟨0, 0⟩, 0⟩).c.m (l.getD k ⟨⟨0, 0⟩, 0⟩).c.v p) = true := by
 unfold yX
 rw [List.any_eq_true]
 constructor
 ·rintro ⟨x, hx, h⟩
  obtain ⟨k, hk, rfl⟩ := fq (d := ⟨⟨0, 0⟩, 0⟩) hx
  exact ⟨k, hk, h⟩
 ·rintro ⟨k, hk, h⟩; exact ⟨_, dV hk, h⟩
theorem RF {l : List Rw} {p o k : Nat} (hk : k < l.length) (h1 : (l.getD k ⟨⟨0, 0⟩, 0⟩).o.testBit o = true) (h2 : pN (l.getD k ⟨⟨0, 0⟩, 0⟩).c.m (l.getD k ⟨⟨0, 0⟩, 0⟩).c.v p = true) : Value.bool true = .bool (yX l p o) := ze (sP.2 ⟨k, hk, by rw [h1, h2]; rfl⟩)
theorem Rz {l : List Rw} {p o k : Nat} (hk : k = l.length) (h : ∀ q, q < k → ((l.getD q ⟨⟨0, 0⟩, 0⟩).o.testBit o && pN (l.getD q ⟨⟨0, 0⟩, 0⟩).c.m (l.getD q ⟨⟨0, 0⟩, 0⟩).c.v p) = false) : Value.bool false = .bool (yX l p o) := nI fun hc => by
 obtain ⟨q, hq, h2⟩ := sP.1 hc
 rw [h q (by omega)] at h2; cases h2
theorem KA : ∀ n, n ≤ 8 → (eq (J8 (l5 (2 ^ n)))).length = 2 ^ n := by decide +kernel
theorem jW {S : Sp} {l : List Rw} {o : Nat} (hr : dO S = true) (hm : oK S l = true) (ho : o < S.on.length) :
  xQ S l o = true ↔ ∀ p, p < 2 ^ S.n.toNat → ((AA S o).testBit p = true → yX l p o = true) ∧ (yX l p o = true → (jq S o).testBit p = true) := by
 obtain ⟨h0, h8, h1, h4, h5, hin⟩ := d9.1 hr
 have hp := fl h8
 obtain ⟨w1, w2⟩ := hin o ho
 have hcv : ∀ p, p < 2 ^ S.n.toNat → ((mI l S.n.toNat o l.length).testBit p = true ↔ yX l p o = true) := fun p hpn => by
  rw [kC (by omega) p _ (Nat.le_refl _), sP]
  have key : ∀ k, k < l.length → (NZ (l.getD k ⟨⟨0, 0⟩, 0⟩) o p ↔ ((l.getD k ⟨⟨0, 0⟩, 0⟩).o.testBit o && pN (l.getD k ⟨⟨0, 0⟩, 0⟩).c.m (l.getD k ⟨⟨0, 0⟩, 0⟩).c.v p) = true) := fun k hk => by
   have hv := (d4.1 (jo.1 (kP.1 hm k hk)).1).2.2.2
   unfold NZ hold pN
   rw [Bool.and_eq_true, decide_eq_true_eq, hv]
  constructor
  ·rintro ⟨_, k, hk, h⟩; exact ⟨k, hk, (key k hk).1 h⟩
  ·rintro ⟨k, hk, h⟩; exact ⟨hpn, k, hk, (key k hk).2 h⟩
 unfold xQ
 rw [Bool.and_eq_true, ea, ea]
 constructor
 ·rintro ⟨g1, g2⟩ p hpn
  exact ⟨fun h => (hcv p hpn).1 (g1 p (by omega) h), fun h => g2 p (by omega) ((hcv p hpn).2 h)⟩
 ·intro g
  have hlt : ∀ p, p < 256 → (jq S o).testBit p = true → p < 2 ^ S.n.toNat := fun p hp2 h => by
   have := ea.1 w2 p hp2 h
   rw [fR] at this
   simpa using this
  refine ⟨fun p hp2 h => ?_, fun p hp2 h => ?_⟩
  ·have hpn := hlt p hp2 (ea.1 w1 p hp2 h)
   exact (hcv p hpn).2 ((g p hpn).1 h)
  ·have hpn := ((kC (by omega) p _ (Nat.le_refl _)).1 h).1
   exact (g p hpn).2 ((hcv p hpn).1 h)
theorem rR {S : Sp} {l : List Rw} {o p : Nat} (hr : dO S = true) (hm : oK S l = true) (ho : o < S.on.length) (hp : p < 2 ^ S.n.toNat)
  (h : ¬ (((AA S o).testBit p = true → yX l p o = true) ∧ (yX l p o = true → (jq S o).testBit p = true))) : Value.bool false = .bool (gW S l) := nI fun k => h ((jW hr hm ho).1 ((gr.1 k).2.2 o ho) p hp)
theorem IX {a b : Bool} (h : a = false) : (a && b) = false := by rw [h]; rfl
theorem KB {a b : Bool} (h : b = false) : (a && b) = false := by rw [h, Bool.and_false]
theorem AL {o : Nat} {i : Int} (h : ((o / 2 ^ i.toNat &&& 1 : Nat) : Int) = 1) : o.testBit i.toNat = true := lz.1 h
theorem AQ {o : Nat} {i : Int} (h : ¬ ((o / 2 ^ i.toNat &&& 1 : Nat) : Int) = 1) : ¬ o.testBit i.toNat = true := fun k => h (lz.2 k)
theorem JB {S : Sp} {l : List Rw} {k : Nat} (hk : k < l.length) (h : ¬ Ez S (l.getD k ⟨⟨0, 0⟩, 0⟩) = true) : Value.bool false = .bool (gW S l) := nI fun hc => h (kP.1 (gr.1 hc).2.1 k hk)
theorem IE {s p : Nat} (hp : p < 256) (h : (qv s).getD (p : Int).toNat false = true) : s.testBit p = true := (yN hp).symm.trans h
theorem Gv {s p : Nat} (hp : p < 256) (h : (qv s).getD (p : Int).toNat false = false) : ¬ s.testBit p = true := fun k => by
 rw [yN hp, k] at h; cases h
end
end Go.Proofs.YteimkklmmanncaaGreat
