/- The walks of what rows cover, and of the document's rows, primes and growing. A row of the call's own is changed in place: one field of an element, and an append onto its own part (elements left out). Slices of slices: a row of slice values, each of which is readable. What coverings are. No program  -/
import Derived.Test.YteimkklmmanncaaGreatCov
import Derived.Laws.Strings2
import Derived.Laws.Strings3
import Derived.Laws.Concat
import Derived.Laws.BytesString
namespace Go.Proofs.YteimkklmmanncaaGreat
set_option linter.unusedVariables false
set_option linter.unusedSimpArgs false
section
open Go Go.RowKit
theorem Ol31_0 {p : Prop} (h : p := by first | omega | (simp only [cV, cW, cX, da, de]; omega)) : p := h
theorem sA : dC Tryz.prog 114 = true := by kernel_rfl
theorem Ni : dC Tryz.prog 89 = true := by kernel_rfl
theorem O4 : dC Tryz.prog 90 = true := by kernel_rfl
theorem M0 : dC Tryz.prog 52 = true := by kernel_rfl
theorem NN : dC Tryz.prog 28 = true := by kernel_rfl
theorem OJ : dC Tryz.prog 29 = true := by kernel_rfl
theorem Cw (S : Sp) (onV mayV : Value) (xa : Value) (l : List Rw) (w : World) (hon : dM gp 4 w onV S.on) (hmay : dM gp 4 w mayV S.may) (hl : dM gv 3 w xa l) (hlb : l.length ≤ 2000000) (hlr : hU l) (h4 : S.on.length ≤ 20) :
    Fn Tryz.prog 89 #[.agg #[.int .i64 S.n, onV, mayV], xa] w fun v w' => v = .bool (oh S l) := by
 refine dq (n := 35) Tryz.func89 rfl rfl (Nat.le_of_ble_eq_true rfl) ?_
 have hB : Below w.heap.size w w := Below.refl _ _
 refine Zr <| Zy (dU (c := #[_, _, _]) rfl rfl fun t W3 i u a => ?_)
 have L := ZO i hB
 clear i
 replace hB := Ze hB u
 refine Zw (.bool false) rfl <| cT <| cY fun K6 y => Zr <| Zw xa rfl <| Zv (dA (v := xa) rfl (Below.slT hB hl) dT) <| Zw (.int .i64 0) rfl <| cT <| c7 ?_
 refine dw (σ := (Nat)) [4, 6, 9, 10, 11, 12, 13, 14, 15, 16, 17, 18, 19, 20, 21, 22, 23, 24, 25, 26, 27, 28, 29, 30, 31, 32, 33, 34] (fun k => [(9, .int .i64 (k : Int))]) (fun k W => (Below w.heap.size w W) ∧ (At W t _ 24) ∧ (k ≤ l.length) ∧ (∀ q, q < k → EV S (l.getD q ⟨⟨0, 0⟩, 0⟩) = true) ∧ (True)) (fun k => l.length - k) (0) ⟨rfl, trivial⟩ ⟨hB, a, (Nat.zero_le _), ff, trivial⟩ ?_
 clear hB a
 rintro k M N ⟨hB, a, hk, hq, _⟩ O z
 refine Zr <| Zv (dL rfl rfl) <| cT <| cY fun P A => ZQ rfl (fun B => ?_) fun B => ?_
 refine c9 <| A _ _ <| cY fun Q C => c7 ?_
 obtain ⟨D, E, R⟩ := hlr.get (k := k) (by omega)
 refine Zr <| Zv (dJ (v := xa) rfl (Below.slT hB hl) rfl dT Om Ol31_0) <| Zv (k8 rfl eA (dM.cell (Below.slT hB hl) ej ⟨⟨0, 0⟩, 0⟩ Om Ol31_0 0 rfl) (dM.cell (Below.slT hB hl) ej ⟨⟨0, 0⟩, 0⟩ Om Ol31_0 1 rfl) (dM.cell (Below.slT hB hl) ej ⟨⟨0, 0⟩, 0⟩ Om Ol31_0 2 rfl)) <| Zy (dt kP rfl fun T U j p b => ?_)
 have F := ZO j hB
 clear j
 replace hB := Ze hB p
 replace a := p.at a
 refine Zy (dg rfl rfl eA rfl b rfl rfl fun V r G => ?_)
 replace hB := Zg hB r F
 replace a := At.grownAt a b r Dd
 replace b := G
 refine cT <| Zd eo fun H e => ?_
 replace hB := Ze hB e
 replace a := e.at a
 replace b := e.at b
 have hS := eo.refl H
 refine Tf 0 rfl rfl gF hS <| Tk 1 rfl (fun _ hq => ig rfl dN (At.cell (hq.at b) rfl) (At.cell (hq.at b) rfl)) hS <| Tf 2 rfl rfl fQ hS <| Tk 3 rfl (fun _ hq => dk (v := .int .i64 _) rfl dB (At.cell (hq.at a) rfl)) hS <| To 4 rfl (TC (vs := [.agg #[_, _], .int .i64 _]) Fb (rX _ _ _ _ D E) rfl fun X Y d I => ⟨.inl (hS.trans d), ?_⟩)
 have J := hB
 have K := a
 have s := b
 replace hB := Ze hB d
 replace a := d.at a
 replace b := d.at b
 replace hS := hS.trans d
 obtain rfl := I
 refine Tk 5 rfl (fun _ _ => fy rfl) hS <| Tx 6 rfl (fun _ _ => kN (v := .bool _) rfl) hS (fun f => ?_) fun f => ?_
 refine Tp 7 rfl hS <| Tp 8 rfl hS <| Tp 9 rfl hS <| Tw 10 (.bool true) rfl rfl hS <| Tw 11 (.bool true) rfl rfl hS <| Tp 12 rfl hS <| Tp 13 rfl hS <| Tp 14 rfl hS <| Tp 15 rfl hS <| Tp 16 rfl hS <| Tp 17 rfl hS <| Tp 18 rfl hS <| Tp 19 rfl hS <| Tw 20 (.bool true) rfl rfl hS ?_
 refine Td <| dz rfl <| Zr <| Zw (.bool false) rfl <| cT <| Zt <| dE (v := .bool false) rfl ⟨hB, ?_⟩
 exact Hc (k := k) Om (Pm f)
 refine Tf 7 rfl rfl fK hS <| Tk 8 rfl (fun _ hq => dk (v := .int .u8 _) rfl ef (At.cell (hq.at s) rfl)) hS <| Tk 9 rfl (fun _ _ => eB rfl rfl) hS <| Ty 10 rfl rfl hS <| Tx 11 rfl (fun _ _ => kN (v := .bool _) rfl) hS (fun g => ?_) fun g => ?_
 refine Tp 12 rfl hS <| Tp 13 rfl hS <| Tp 14 rfl hS <| Tp 15 rfl hS <| Tp 16 rfl hS <| Tp 17 rfl hS <| Tp 18 rfl hS <| Tp 19 rfl hS <| Tw 20 (.bool true) rfl rfl hS <| Td <| dz rfl <| Zr <| Zw (.bool false) rfl <| cT ?_
 refine Zt <| dE (v := .bool false) rfl ⟨hB, ?_⟩
 exact Hc (k := k) Om (PG g)
 refine Tf 12 rfl rfl fK hS <| Tk 13 rfl (fun _ hq => dk (v := .int .u8 _) rfl ef (At.cell (hq.at s) rfl)) hS <| Tk 14 rfl (fun _ _ => jt rfl Tryz.underlying5 Tryz.underlying3 (by show (l.getD k ⟨⟨0, 0⟩, 0⟩).o < 9223372036854775808; omega)) hS <| Tf 15 rfl rfl fF hS <| Tk 16 rfl (fun _ hq => dk (v := onV) rfl eE (At.cell (hq.at K) rfl)) hS <| Tk 17 rfl (fun _ hq => dA (v := onV) rfl (hq.slT (Below.slT J hon)) ea) hS <| Tk 18 rfl (fun _ _ => jB (m := 1) rfl rfl Om (by simp only [IntKind.bits]; omega) (by exact rO _ _ (by simp only [lN]; omega))) hS <| Tk 19 rfl (fun _ _ => nJ rfl rfl) hS <| Ty 20 rfl rfl hS <| Td <| ZQ rfl (fun h => ?_) fun h => ?_
 refine Zr <| Zw (.bool false) rfl <| cT <| Zt <| dE (v := .bool false) rfl ⟨hB, ?_⟩
 exact Hc (k := k) Om (PM h)
 refine c9 <| C _ _ <| cZ <| Zv (dp rfl rfl Om Om) <| Zi rfl <| cT ?_
 exact z _ _ (k + 1) Za ⟨rfl, trivial⟩ ⟨hB, a, Om, (ey hq (PY (x := (l.getD k ⟨⟨0, 0⟩, 0⟩)) f g h)), trivial⟩ Zo
 refine dr <| y _ _ <| Zr <| Zw (.bool true) rfl <| cT <| Zt <| dE (v := .bool true) rfl ⟨hB, ?_⟩
 obtain rfl : k = l.length := by omega
 exact Bu (kq.2 hq)
theorem w7 (xa : Value) (l : List Rw) (n out : Int) (w : World) (hl : dM gv 3 w xa l) (hlb : l.length ≤ 2000000) (hlr : hU l) :
    Fn Tryz.prog 90 #[xa, .int .i64 n, .int .i64 out] w fun v w' => v = if wW l n out = true then .tuple #[eP (mC l n.toNat out.toNat l.length), .int .i64 0] else .tuple #[eP 0, .int .i64 1] := by
 refine dq (n := 56) Tryz.func90 rfl rfl (Nat.le_of_ble_eq_true rfl) ?_
 have hB : Below w.heap.size w w := Below.refl _ _
 refine Zr <| Zy (dt eM rfl fun E W3 y N a => ?_)
 have g := ZO y hB
 clear y
 replace hB := Ze hB N
 replace a : At W3 E #[wv 0 0, wv 0 1, wv 0 2, wv 0 3] 49 := a
 refine Zw (.int .i64 0) rfl <| cT <| cY fun K6 O => Zr <| Zi rfl <| Zv (dL rfl rfl) <| ZX rfl (fun P => ?_) fun P => ?_
 refine Zs <| Zs <| Zw (.bool true) rfl <| Zw (.bool true) rfl <| Zs <| Zs <| Zw (.bool true) rfl <| Zw (.bool true) rfl <| Zs <| Zs <| Zw (.bool true) rfl <| cT <| dz rfl <| Zr ?_
 refine Zv (v := eP 0) (gD ) <| Zy (dg rfl rfl df rfl a rfl rfl fun az Q R => ?_)
 replace hB := Zg hB Q g
 replace a := R
 refine Zw (.int .i64 1) rfl <| cT <| Zt <| fw rfl df a rfl (v1 := .int .i64 1) rfl ⟨hB, ?_⟩
 rw [if_neg (uH (by omega))]
 refine Zi rfl <| Zv (iQ rfl rfl) <| Zb rfl <| ZX rfl (fun S => ?_) fun S => ?_
 refine Zs <| Zs <| Zw (.bool true) rfl <| Zw (.bool true) rfl <| Zs <| Zs <| Zw (.bool true) rfl <| cT <| dz rfl <| Zr <| Zv (v := eP 0) (gD ) <| Zy (dg rfl rfl df rfl a rfl rfl fun aA T U => ?_)
 replace hB := Zg hB T g
 replace a := U
 refine Zw (.int .i64 1) rfl <| cT <| Zt <| fw rfl df a rfl (v1 := .int .i64 1) rfl ⟨hB, ?_⟩
 rw [if_neg (uH (by omega))]
 refine Zi rfl <| Zv (dL rfl rfl) <| Zb rfl <| ZX rfl (fun V => ?_) fun V => ?_
 refine Zs <| Zs <| Zw (.bool true) rfl <| cT <| dz rfl <| Zr <| Zv (v := eP 0) (gD ) <| Zy (dg rfl rfl df rfl a rfl rfl fun aB X Y => ?_)
 replace hB := Zg hB X g
 replace a := Y
 refine Zw (.int .i64 1) rfl <| cT <| Zt <| fw rfl df a rfl (v1 := .int .i64 1) rfl ⟨hB, ?_⟩
 rw [if_neg (uH (by omega))]
 refine Zi rfl <| Zv (nJ rfl rfl) <| Zb rfl <| cT <| ZQ rfl (fun Z => ?_) fun Z => ?_
 refine Zr <| Zv (v := eP 0) (gD ) <| Zy (dg rfl rfl df rfl a rfl rfl fun aC aa ab => ?_)
 replace hB := Zg hB aa g
 replace a := ab
 refine Zw (.int .i64 1) rfl <| cT <| Zt <| fw rfl df a rfl (v1 := .int .i64 1) rfl ⟨hB, ?_⟩
 rw [if_neg (uH (by omega))]
 refine c9 <| O _ _ <| Zr <| Zy (dt eM rfl fun F ac z G b => ?_)
 have ad := ZO z hB
 have A := Zn z a.lt
 clear z
 replace hB := Ze hB G
 replace a := G.at a
 replace b : At ac F #[wv 0 0, wv 0 1, wv 0 2, wv 0 3] 49 := b
 refine cT <| cY fun aD ae => Zr <| Zw xa rfl <| Zv (dA (v := xa) rfl (Below.slT hB hl) dT) <| Zw (.int .i64 0) rfl <| cT <| c7 ?_
 refine dw (σ := (Nat)) [7, 10, 11, 12, 30, 31, 32, 33, 34, 35, 36, 37, 38, 39, 40, 41, 42, 43, 44, 45, 46, 47, 48, 49, 50, 51, 52, 53, 54] (fun k => [(30, .int .i64 (k : Int))]) (fun k W => (Below w.heap.size w W) ∧ (At W E _ 49) ∧ (At W F #[wv (mC l n.toNat out.toNat k) 0, wv (mC l n.toNat out.toNat k) 1, wv (mC l n.toNat out.toNat k) 2, wv (mC l n.toNat out.toNat k) 3] 49) ∧ (k ≤ l.length) ∧ (∀ q, q < k → dY (l.getD q ⟨⟨0, 0⟩, 0⟩).c.m (l.getD q ⟨⟨0, 0⟩, 0⟩).c.v n = true) ∧ (True)) (fun k => l.length - k) (0) ⟨rfl, trivial⟩ ⟨hB, a, b, (Nat.zero_le _), ff, trivial⟩ ?_
 clear hB a b
 rintro k aE aF ⟨hB, a, b, hk, hq, _⟩ aG H
 refine Zr <| Zv (dL rfl rfl) <| cT <| cY fun aH af => ZQ rfl (fun ag => ?_) fun ag => ?_
 refine c9 <| af _ _ <| cY fun aI I => c7 ?_
 obtain ⟨ah, ai, aJ⟩ := hlr.get (k := k) (by omega)
 have y : (l.getD k ⟨⟨0, 0⟩, 0⟩).o / 2 ^ out.toNat ≤ (l.getD k ⟨⟨0, 0⟩, 0⟩).o := Nat.div_le_self _ _
 refine Zr <| Zv (dJ (v := xa) rfl (Below.slT hB hl) rfl dT Om Ol31_0) <| Zv (k8 rfl eA (dM.cell (Below.slT hB hl) ej ⟨⟨0, 0⟩, 0⟩ Om Ol31_0 0 rfl) (dM.cell (Below.slT hB hl) ej ⟨⟨0, 0⟩, 0⟩ Om Ol31_0 1 rfl) (dM.cell (Below.slT hB hl) ej ⟨⟨0, 0⟩, 0⟩ Om Ol31_0 2 rfl)) <| Zy (dt kP rfl fun aK aL J B d => ?_)
 have aj := ZO J hB
 clear J
 replace hB := Ze hB B
 replace a := B.at a
 replace b := B.at b
 refine Zy (dg rfl rfl eA rfl d rfl rfl fun aM C ak => ?_)
 replace hB := Zg hB C aj
 replace a := At.grownAt a d C Dd
 replace b := At.grownAt b d C Dd
 replace d := ak
 refine cT <| Zr <| Zf rfl gF <| Zv (ig rfl dN (At.cell d rfl) (At.cell d rfl)) <| Zi rfl <| ZC (vs := [.agg #[_, _], .int .i64 _]) yN (lc _ _ _ _ ah ai) rfl fun aN aO p al => ?_
 replace hB := Ze hB p
 replace a := p.at a
 replace b := p.at b
 replace d := p.at d
 obtain ⟨sa, er, rfl, hhP7_3⟩ := tj al
 refine Zw (.tuple #[.agg #[_, _, _, _], .int .i64 _]) rfl <| Zv (dI rfl) <| Zv (dK rfl) <| Zy (dt eM rfl fun ao ap r s f => ?_)
 have aq := ZO r hB
 have K := Zn r a.lt
 have L := Zn r b.lt
 clear r
 replace hB := Ze hB s
 replace a := s.at a
 replace b := s.at b
 replace d := s.at d
 replace f : At ap ao #[wv 0 0, wv 0 1, wv 0 2, wv 0 3] 49 := f
 refine Zy (dg rfl rfl df rfl f rfl rfl fun aP t ar => ?_)
 replace hB := Zg hB t aq
 replace a := At.grownNe a K t
 replace b := At.grownNe b L t
 replace d := At.grownAt d f t Dd
 replace f := ar
 refine Zi rfl <| cT <| cY fun aQ au => Zr <| Zi rfl <| Zv (f7 rfl rfl) <| cT <| ZQ rfl (fun D => ?_) fun D => ?_
 refine Zr <| Zv (v := eP 0) (gD ) <| Zi rfl <| Zy (dg rfl rfl df rfl a rfl rfl fun aR u av => ?_)
 replace hB := Zg hB u g
 replace b := At.grownNe b (Ne.symm A) u
 replace d := At.grownAt d a u Dd
 replace f := At.grownNe f (Ne.symm K) u
 replace a := av
 refine Zi rfl <| cT <| Zt <| fw rfl df a rfl (v1 := .int .i64 _) rfl ⟨hB, ?_⟩
 obtain ⟨hrr, her⟩ := hhP7_3.resolve_left (fun h => D h.2.2)
 rw [if_neg (NR (k := k) (by omega) hrr), her]
 refine c9 <| au _ _ ?_
 obtain ⟨hrr, hsa, _⟩ := hhP7_3.resolve_right (fun h => D (fun e => by rw [h.2] at e; cases e))
 subst hsa
 refine Zr <| Zf rfl fK <| Zl rfl ef d rfl <| Zi rfl <| Zv (sL rfl rfl Om (by simp only [IntKind.bits]; omega)) <| Zv (nE (n := 1) rfl rfl rfl (by show (l.getD k ⟨⟨0, 0⟩, 0⟩).o / 2 ^ out.toNat < 256; omega) Dd) <| Zv (eB rfl rfl) <| cT <| ZQ rfl (fun i => ?_) fun i => ?_
 refine cZ <| Zv (db rfl df rfl b) <| Zv (db rfl df rfl f) <| ZC (vs := [.agg #[_, _, _, _], .agg #[_, _, _, _]]) sA (rZ _ _ _) rfl fun aS aT j aw => ?_
 replace hB := Ze hB j
 replace a := j.at a
 replace b := j.at b
 replace d := j.at d
 replace f := j.at f
 obtain rfl := aw
 refine Zy (dg rfl rfl df rfl b rfl rfl fun aU x ax => ?_)
 replace hB := Zg hB x ad
 replace a := At.grownNe a A x
 replace d := At.grownAt d b x Dd
 replace f := At.grownNe f (Ne.symm L) x
 replace b := ax
 refine cT <| I _ _ <| cZ <| Zv (dp rfl rfl Om Om) <| Zi rfl <| cT ?_
 exact H _ _ (k + 1) Za ⟨rfl, trivial⟩ ⟨hB, a, (by first | (rw [← JL (l := l) (k := k) (Bq i)]; exact b) | (rw [← Ju (l := l) (k := k) (Bz i)]; exact b)), Om, (ey hq hrr), trivial⟩ Zo
 refine c9 <| I _ _ <| cZ <| Zv (dp rfl rfl Om Om) <| Zi rfl <| cT ?_
 exact H _ _ (k + 1) Za ⟨rfl, trivial⟩ ⟨hB, a, (by first | (rw [← JL (l := l) (k := k) (Bq i)]; exact b) | (rw [← Ju (l := l) (k := k) (Bz i)]; exact b)), Om, (ey hq hrr), trivial⟩ Zo
 refine dr <| ae _ _ <| Zr <| Zv (db rfl df rfl b) <| Zy (dg rfl rfl df rfl a rfl rfl fun aV M ay => ?_)
 replace hB := Zg hB M g
 replace b := At.grownNe b (Ne.symm A) M
 replace a := ay
 refine Zw (.int .i64 0) rfl <| cT <| Zt <| fw rfl df a rfl (v1 := .int .i64 0) rfl ⟨hB, ?_⟩
 obtain rfl : k = l.length := by omega
 rw [if_pos (rC.2 ⟨by omega, hq⟩)]
theorem qQ (S : Sp) (onV mayV : Value) (xa : Value) (l : List Rw) (w : World) (hon : dM gp 4 w onV S.on) (hmay : dM gp 4 w mayV S.may) (hl : dM gv 3 w xa l) (hlb : l.length ≤ 2000000) (hlr : hU l) (h4 : S.on.length ≤ 20) :
    Fn Tryz.prog 48 #[.agg #[.int .i64 S.n, onV, mayV], xa] w fun v w' => v = .bool (ju S l) := by
 refine dq (n := 49) Tryz.func48 rfl rfl (Nat.le_of_ble_eq_true rfl) ?_
 have hB : Below w.heap.size w w := Below.refl _ _
 refine Zr <| Zy (dU (c := #[_, _, _]) rfl rfl fun E W3 y F a => ?_)
 have af := ZO y hB
 clear y
 replace hB := Ze hB F
 refine Zw (.bool false) rfl <| cT <| cY fun K6 G => Zr <| Zv (db rfl eV rfl a) <| ZC (vs := [.agg #[_, _, _]]) q5 (iN S _ _  _ (Below.slT hB hon) (Below.slT hB hmay) ) rfl fun ag ah z H => ?_
 replace hB := Ze hB z
 replace a := z.at a
 obtain rfl := H
 refine Zv (fy rfl) <| ZX rfl (fun j => ?_) fun j => ?_
 refine Zs <| Zs <| Zs <| Zs <| Zw (.bool true) rfl <| cT <| dz rfl <| Zr <| Zw (.bool false) rfl <| cT <| Zt <| dE (v := .bool false) rfl ⟨hB, ?_⟩
 exact NJ (jc j)
 refine Zv (db rfl eV rfl a) <| Zw xa rfl <| ZC (vs := [.agg #[_, _, _], xa]) Ni (Cw S _ _ _ l _ (Below.slT hB hon) (Below.slT hB hmay) (Below.slT hB hl) hlb hlr h4) rfl fun ai aj A I => ?_
 replace hB := Ze hB A
 replace a := A.at a
 obtain rfl := I
 refine Zv (fy rfl) <| Zb rfl <| cT <| ZQ rfl (fun m => ?_) fun m => ?_
 refine Zr <| Zw (.bool false) rfl <| cT <| Zt <| dE (v := .bool false) rfl ⟨hB, ?_⟩
 exact Nf (jc m)
 refine c9 <| G _ _ <| cY fun ak J => ?_
 have hr : dP S = true := ie j
 have hm : oh S l = true := ie m
 obtain ⟨h0, h8, h1, h5, h6, _⟩ := d7.1 hr
 refine Zr <| Zf rfl fF <| ZL onV rfl eE a rfl <| Zv (dA (v := onV) rfl (Below.slT hB hon) ea) <| Zw (.int .i64 0) rfl <| cT <| c7 ?_
 refine dw (σ := (Nat)) [4, 5, 6, 7, 8, 21, 22, 23, 24, 25, 26, 27, 28, 29, 30, 31, 32, 33, 34, 35, 36, 37, 38, 39, 40, 41, 42, 43, 44, 45, 46, 47, 48] (fun k => [(21, .int .i64 (k : Int))]) (fun k W => (Below w.heap.size w W) ∧ (At W E _ 24) ∧ (k ≤ S.on.length) ∧ (∀ q, q < k → w5 S l q = true) ∧ (True)) (fun k => S.on.length - k) (0) ⟨rfl, trivial⟩ ⟨hB, a, (Nat.zero_le _), ff, trivial⟩ ?_
 clear hB a
 rintro k al ao ⟨hB, a, hk, hq, _⟩ ap K
 refine Zr <| Zv (dL rfl rfl) <| cT <| cY fun aq L => ZQ rfl (fun M => ?_) fun M => ?_
 refine c9 <| L _ _ <| cY fun ar N => c7 <| Zr <| Zi rfl <| Zv (dJ (v := onV) rfl (Below.slT hB hon) rfl ea Om Ol31_0) <| Zv (fq rfl df (dM.cell (Below.slT hB hon) dG 0 Om Ol31_0 0 rfl) (dM.cell (Below.slT hB hon) dG 0 Om Ol31_0 1 rfl) (dM.cell (Below.slT hB hon) dG 0 Om Ol31_0 2 rfl) (dM.cell (Below.slT hB hon) dG 0 Om Ol31_0 3 rfl)) <| Zy (dt eM rfl fun O P B C b => ?_)
 have Q := ZO B hB
 clear B
 replace hB := Ze hB C
 replace a := C.at a
 replace b : At P O #[wv 0 0, wv 0 1, wv 0 2, wv 0 3] 49 := b
 refine Zi rfl <| Zy (dg rfl rfl df rfl b rfl rfl fun au D R => ?_)
 replace hB := Zg hB D Q
 replace a := At.grownAt a b D Dd
 replace b := R
 refine cT <| Zr <| Zw xa rfl <| Zf rfl fQ <| Zl rfl dB a rfl <| Zi rfl <| ZC O4 (w7 _ l S.n (k : Int) _ (Below.slT hB hl) hlb hlr) rfl fun av aw p T => ?_
 replace hB := Ze hB p
 replace a := p.at a
 replace b := p.at b
 obtain ⟨sa, er, rfl, hhP6_4⟩ := LA T
 refine Zw (.tuple #[.agg #[_, _, _, _], .int .i64 _]) rfl <| Zv (dI rfl) <| Zv (dK rfl) <| Zy (dt eM rfl fun U V r s d => ?_)
 have X := ZO r hB
 have Y := Zn r b.lt
 clear r
 replace hB := Ze hB s
 replace a := s.at a
 replace b := s.at b
 replace d : At V U #[wv 0 0, wv 0 1, wv 0 2, wv 0 3] 49 := d
 refine Zy (dg rfl rfl df rfl d rfl rfl fun ax t Z => ?_)
 replace hB := Zg hB t X
 replace a := At.grownAt a d t Dd
 replace b := At.grownNe b Y t
 replace d := Z
 refine Zi rfl <| cT ?_
 obtain ⟨_, hsa, _⟩ := hhP6_4.resolve_right (fun h => by have h2 := KC (l := l) hr hm (show k < S.on.length by omega); rw [h.1] at h2; cases h2)
 rw [Int.toNat_natCast] at hsa
 subst hsa
 refine Zd eo fun aa i => ?_
 replace hB := Ze hB i
 replace a := i.at a
 replace b := i.at b
 replace d := i.at d
 have hS := eo.refl aa
 refine Tk 0 rfl (fun _ hq => db rfl df rfl (hq.at b)) hS <| Tk 1 rfl (fun _ hq => db rfl df rfl (hq.at d)) hS <| To 2 rfl (TC (vs := [.agg #[_, _, _, _], .agg #[_, _, _, _]]) pL (ij _ _ _) rfl fun ay az e ab => ⟨.inl (hS.trans e), ?_⟩)
 have g := hB
 have ac := a
 have ad := d
 replace hB := Ze hB e
 replace a := e.at a
 replace b := e.at b
 replace d := e.at d
 replace hS := hS.trans e
 obtain rfl := ab
 refine Tk 3 rfl (fun _ _ => fy rfl) hS <| Tx 4 rfl (fun _ _ => kN (v := .bool _) rfl) hS (fun u => ?_) fun u => ?_
 refine Tp 5 rfl hS <| Tp 6 rfl hS <| Tp 7 rfl hS <| Tp 8 rfl hS <| Tp 9 rfl hS <| Tp 10 rfl hS <| Tp 11 rfl hS <| Tp 12 rfl hS <| Tw 13 (.bool true) rfl rfl hS <| Td <| dz rfl <| Zr <| Zw (.bool false) rfl <| cT ?_
 refine Zt <| dE (v := .bool false) rfl ⟨hB, ?_⟩
 exact O5 (o := k) Om (jc u)
 refine Tk 5 rfl (fun _ hq => db rfl df rfl (hq.at ad)) hS <| Tf 6 rfl rfl fU hS <| Tk 7 rfl (fun _ hq => dk (v := mayV) rfl eE (At.cell (hq.at ac) rfl)) hS <| Ti 8 rfl rfl hS <| Tk 9 rfl (fun _ hq => dJ (v := mayV) rfl (hq.slT (Below.slT g hmay)) rfl ea Om Ol31_0) hS <| Tk 10 rfl (fun _ hq => fq rfl df (dM.cell (hq.slT (Below.slT g hmay)) dG 0 Om Ol31_0 0 rfl) (dM.cell (hq.slT (Below.slT g hmay)) dG 0 Om Ol31_0 1 rfl) (dM.cell (hq.slT (Below.slT g hmay)) dG 0 Om Ol31_0 2 rfl) (dM.cell (hq.slT (Below.slT g hmay)) dG 0 Om Ol31_0 3 rfl)) hS <| To 11 rfl (TC (vs := [.agg #[_, _, _, _], .agg #[_, _, _, _]]) pL (ij _ _ _) rfl fun aA aB f ae => ⟨.inl (hS.trans f), ?_⟩)
 replace hB := Ze hB f
 replace a := f.at a
 replace b := f.at b
 replace d := f.at d
 replace hS := hS.trans f
 obtain rfl := ae
 refine Tk 12 rfl (fun _ _ => fy rfl) hS <| Ty 13 rfl rfl hS <| Td <| ZQ rfl (fun x => ?_) fun x => ?_
 refine Zr <| Zw (.bool false) rfl <| cT <| Zt <| dE (v := .bool false) rfl ⟨hB, ?_⟩
 exact Oa (o := k) Om (jc x)
 refine c9 <| N _ _ <| cZ <| Zv (dp rfl rfl Om Om) <| Zi rfl <| cT ?_
 exact K _ _ (k + 1) Za ⟨rfl, trivial⟩ ⟨hB, a, Om, (ey hq (IM (ie u) (ie x))), trivial⟩ Zo
 refine dr <| J _ _ <| Zr <| Zw (.bool true) rfl <| cT <| Zt <| dE (v := .bool true) rfl ⟨hB, ?_⟩
 obtain rfl : k = S.on.length := by omega
 exact Bu (gX.2 ⟨hr, hm, hq⟩)
theorem pb (n : Int) (w : World) (h0 : 0 ≤ n) (h1 : n ≤ 8) :
    Fn Tryz.prog 28 #[.int .i64 n] w fun v w' => v = .int .i64 ((2 ^ n.toNat : Nat) : Int) := by
 refine dq (n := 8) Tryz.func28 rfl rfl (Nat.le_of_ble_eq_true rfl) ?_
 have hB : Below w.heap.size w w := Below.refl _ _
 refine Zr <| Zw (.int .i64 0) rfl <| cT <| Zr <| Zi rfl <| ZC HF (lB _ _ (by first | assumption | omega) (by first | assumption | omega)) rfl fun e W5 f a => ?_
 have g := (Below.size hB)
 replace hB := Ze hB f
 replace a := dh.mono a g
 refine ZC (vs := [e]) HG (lg _ _ _ a.sl (cX _)) rfl fun k W8 c h => ?_
 replace hB := Ze hB c
 replace a := c.ow a
 obtain rfl := h
 refine ZC (vs := [.agg #[_, _, _, _]]) M0 (pa _ _) rfl fun i l d b => ?_
 have j := (Below.size hB)
 replace hB := Ze hB d
 replace a := d.ow a
 replace b := dh.mono b j
 refine Zv (dA (v := i) rfl b.sl du) <| Zi rfl <| cT <| Zt <| dE (v := .int .i64 _) rfl ⟨hB, ?_⟩
 rw [HH n.toNat (by omega)]
theorem nk (xa : Value) (l : List Rw) (p o : Nat) (w : World) (hl : dM gv 3 w xa l) (hlb : l.length ≤ 2000000) (hlr : hU l) (hp : p < 256) (ho : o < 8) :
    Fn Tryz.prog 29 #[xa, .int .i64 (p : Int), .int .i64 (o : Int)] w fun v w' => v = .bool (yF l p o) := by
 refine dq (n := 30) Tryz.func29 rfl rfl (Nat.le_of_ble_eq_true rfl) ?_
 have hB : Below w.heap.size w w := Below.refl _ _
 refine Zr <| Zw (.bool false) rfl <| cT <| cY fun K3 f => Zr <| Zw (.int .i64 0) rfl <| cT <| c7 ?_
 refine dw (σ := (Nat)) [6, 7, 8, 9, 10, 11, 12, 13, 14, 15, 16, 17, 18, 19, 20, 21, 22, 23, 24, 25, 26, 27, 28, 29] (fun k => [(7, .int .i64 (k : Int))]) (fun k W => (Below w.heap.size w W) ∧ (k ≤ l.length) ∧ (∀ q, q < k → ((l.getD q ⟨⟨0, 0⟩, 0⟩).o.testBit o && pf (l.getD q ⟨⟨0, 0⟩, 0⟩).c.m (l.getD q ⟨⟨0, 0⟩, 0⟩).c.v p) = false) ∧ (True)) (fun k => l.length - k) (0) ⟨rfl, trivial⟩ ⟨hB, (Nat.zero_le _), ff, trivial⟩ ?_
 clear hB
 rintro k g8 W7 ⟨hB, hk, hq, _⟩ J9 d
 refine cY fun y g => Zr <| Zi rfl <| Zw xa rfl <| Zv (dA (v := xa) rfl (Below.slT hB hl) dT) <| Zv (dL rfl rfl) <| cT <| ZQ rfl (fun h => ?_) fun h => ?_
 refine c9 <| g _ _ <| cY fun z e => c7 ?_
 obtain ⟨i, j, r⟩ := hlr.get (k := k) (by omega)
 refine Zr <| Zw xa rfl <| Zi rfl <| Zv (dJ (v := xa) rfl (Below.slT hB hl) rfl dT Om Ol31_0) <| Zf rfl fK <| Zv (dk (v := .int .u8 _) rfl ef (dM.cell (Below.slT hB hl) ej ⟨⟨0, 0⟩, 0⟩ Om Ol31_0 2 rfl)) <| Zi rfl <| ZC G2 (lr _ _ _ r ho) rfl fun A B s t => ?_
 replace hB := Ze hB s
 obtain rfl := t
 refine ZX rfl (fun a => ?_) fun a => ?_
 refine Zw xa rfl <| Zi rfl <| Zv (dJ (v := xa) rfl (Below.slT hB hl) rfl dT Om Ol31_0) <| Zf rfl gF <| Zv (ig rfl dN (dM.cell (Below.slT hB hl) ej ⟨⟨0, 0⟩, 0⟩ Om Ol31_0 0 rfl) (dM.cell (Below.slT hB hl) ej ⟨⟨0, 0⟩, 0⟩ Om Ol31_0 1 rfl)) <| Zi rfl <| ZC (vs := [.agg #[_, _], .int .i64 _]) N4 (pF _ _ p _ i j hp) rfl fun C D u x => ?_
 replace hB := Ze hB u
 obtain rfl := x
 refine Zb rfl <| cT <| ZQ rfl (fun b => ?_) fun b => ?_
 refine Zr <| Zw (.bool true) rfl <| cT <| Zt <| dE (v := .bool true) rfl ⟨hB, ?_⟩
 exact QO (k := k) Om a b
 refine c9 <| e _ _ <| cZ <| Zi rfl <| Zv (dp rfl rfl Om Om) <| Zi rfl <| cT ?_
 exact d _ _ (k + 1) Za ⟨rfl, trivial⟩ ⟨hB, Om, (ey hq (by first | exact GE a | exact HA b)), trivial⟩ Zo
 refine Zs <| Zs <| Zs <| Zs <| Zs <| Zs <| Zs <| Zw (.bool false) rfl <| cT <| d4 rfl <| c9 <| e _ _ <| cZ <| Zi rfl ?_
 refine Zv (dp rfl rfl Om Om) <| Zi rfl <| cT ?_
 exact d _ _ (k + 1) Za ⟨rfl, trivial⟩ ⟨hB, Om, (ey hq (by first | exact GE a | exact HA b)), trivial⟩ Zo
 refine dr <| f _ _ <| Zr <| Zw (.bool false) rfl <| cT <| Zt <| dE (v := .bool false) rfl ⟨hB, ?_⟩
 exact Qs Om hq
theorem nV (S : Sp) (onV mayV : Value) (xa : Value) (l : List Rw) (w : World) (hon : dM gp 4 w onV S.on) (hmay : dM gp 4 w mayV S.may) (hl : dM gv 3 w xa l) (hlb : l.length ≤ 2000000) (hlr : hU l) (hr : dP S = true) :
    Fn Tryz.prog 12 #[.agg #[.int .i64 S.n, onV, mayV], xa] w fun v w' => v = .bool (ju S l) := by
 refine dq (n := 76) Tryz.func12 rfl rfl (Nat.le_of_ble_eq_true rfl) ?_
 have hB : Below w.heap.size w w := Below.refl _ _
 obtain ⟨h0, h8, h1, h5, h6, _⟩ := d7.1 hr
 have h256 := fh h8
 refine Zr <| Zy (dU (c := #[_, _, _]) rfl rfl fun C W3 E H a => ?_)
 have ah := ZO E hB
 clear E
 replace hB := Ze hB H
 refine Zw (.bool false) rfl <| cT <| cY fun K6 I => Zr <| Zw (.int .i64 0) rfl <| cT <| c7 ?_
 refine dw (σ := (Nat)) [4, 5, 11, 12, 13, 14, 15, 16, 17, 18, 19, 20, 21, 22, 23, 24, 25, 26, 27] (fun k => [(5, .int .i64 (k : Int))]) (fun k W => (Below w.heap.size w W) ∧ (At W C _ 24) ∧ (k ≤ l.length) ∧ (∀ q, q < k → EV S (l.getD q ⟨⟨0, 0⟩, 0⟩) = true) ∧ (True)) (fun k => l.length - k) (0) ⟨rfl, trivial⟩ ⟨hB, a, (Nat.zero_le _), ff, trivial⟩ ?_
 clear hB a
 rintro k ai aj ⟨hB, a, hk, hq, _⟩ ak J
 refine cY fun al K => Zr <| Zi rfl <| Zw xa rfl <| Zv (dA (v := xa) rfl (Below.slT hB hl) dT) <| Zv (dL rfl rfl) <| cT <| ZQ rfl (fun L => ?_) fun L => ?_
 refine c9 <| K _ _ <| cY fun ao M => c7 ?_
 obtain ⟨N, O, P⟩ := hlr.get (k := k) (by omega)
 refine Zd eo fun Q F => ?_
 replace hB := Ze hB F
 replace a := F.at a
 have hS := eo.refl Q
 refine Tw 0 xa rfl rfl hS <| Ti 1 rfl rfl hS <| Tk 2 rfl (fun _ hq => dJ (v := xa) rfl (hq.slT (Below.slT hB hl)) rfl dT Om Ol31_0) hS <| Tk 3 rfl (fun _ hq => k8 rfl eA (dM.cell (hq.slT (Below.slT hB hl)) ej ⟨⟨0, 0⟩, 0⟩ Om Ol31_0 0 rfl) (dM.cell (hq.slT (Below.slT hB hl)) ej ⟨⟨0, 0⟩, 0⟩ Om Ol31_0 1 rfl) (dM.cell (hq.slT (Below.slT hB hl)) ej ⟨⟨0, 0⟩, 0⟩ Om Ol31_0 2 rfl)) hS <| Tf 4 rfl rfl fQ hS <| Tk 5 rfl (fun _ hq => dk (v := .int .i64 _) rfl dB (At.cell (hq.at a) rfl)) hS <| Tf 6 rfl rfl fF hS <| Tk 7 rfl (fun _ hq => dk (v := onV) rfl eE (At.cell (hq.at a) rfl)) hS <| Tk 8 rfl (fun _ hq => dA (v := onV) rfl (hq.slT (Below.slT hB hon)) ea) hS <| To 9 rfl (TC (vs := [.agg #[_, _, _], .int .i64 _, .int .i64 _]) OA (po _ _ _ S.on.length _ _ N O P) rfl fun ap aq t R => ⟨.inl (hS.trans t), ?_⟩)
 replace hB := Ze hB t
 replace a := t.at a
 replace hS := hS.trans t
 obtain rfl := R
 refine Tk 10 rfl (fun _ _ => fy rfl) hS <| Td <| ZQ rfl (fun D => ?_) fun D => ?_
 refine Zr <| Zw (.bool false) rfl <| cT <| Zt <| dE (v := .bool false) rfl ⟨hB, ?_⟩
 exact JH (k := k) Om (fun h => Bool.noConfusion (h.symm.trans ((E8 (S := S) (x := (l.getD k ⟨⟨0, 0⟩, 0⟩))).symm.trans (jc D))))
 refine c9 <| M _ _ <| cZ <| Zi rfl <| Zv (dp rfl rfl Om Om) <| Zi rfl <| cT ?_
 exact J _ _ (k + 1) Za ⟨rfl, trivial⟩ ⟨hB, a, Om, (ey hq ((E8 (S := S) (x := (l.getD k ⟨⟨0, 0⟩, 0⟩))).symm.trans (ie D))), trivial⟩ Zo
 refine dr <| I _ _ <| cY fun ar T => ?_
 obtain rfl : k = l.length := by omega
 have hm : oh S l = true := kq.2 hq
 refine Zr <| Zw (.int .i64 0) rfl <| cT <| c7 ?_
 refine dw (σ := (Nat)) [4, 6, 7, 8, 9, 10, 28, 29, 30, 31, 32, 33, 34, 35, 36, 37, 38, 39, 40, 41, 42, 43, 44, 45, 46, 47, 48, 49, 50, 51, 52, 53, 54, 55, 56, 57, 58, 59, 60, 61, 62, 63, 64, 65, 66, 67, 68, 69, 70, 71, 72, 73, 74, 75] (fun o => [(6, .int .i64 (o : Int))]) (fun o W => (Below w.heap.size w W) ∧ (At W C _ 24) ∧ (o ≤ S.on.length) ∧ (∀ q, q < o → w5 S l q = true) ∧ (True)) (fun o => S.on.length - o) (0) ⟨rfl, trivial⟩ ⟨hB, a, (Nat.zero_le _), ff, trivial⟩ ?_
 clear hB a
 rintro o au av ⟨hB, a, ho, hq2, _⟩ aw U
 refine cY fun ax V => Zr <| Zi rfl <| Zf rfl fF <| ZL onV rfl eE a rfl <| Zv (dA (v := onV) rfl (Below.slT hB hon) ea) <| Zv (dL rfl rfl) <| cT <| ZQ rfl (fun X => ?_) fun X => ?_
 refine c9 <| V _ _ <| cY fun ay Y => c7 <| Zd eo fun Z G => ?_
 replace hB := Ze hB G
 replace a := G.at a
 have hS := eo.refl Z
 refine Tf 0 rfl rfl fF hS <| Tk 1 rfl (fun _ hq => dk (v := onV) rfl eE (At.cell (hq.at a) rfl)) hS <| Ti 2 rfl rfl hS <| Tk 3 rfl (fun _ hq => dJ (v := onV) rfl (hq.slT (Below.slT hB hon)) rfl ea Om Ol31_0) hS <| Tk 4 rfl (fun _ hq => fq rfl df (dM.cell (hq.slT (Below.slT hB hon)) dG 0 Om Ol31_0 0 rfl) (dM.cell (hq.slT (Below.slT hB hon)) dG 0 Om Ol31_0 1 rfl) (dM.cell (hq.slT (Below.slT hB hon)) dG 0 Om Ol31_0 2 rfl) (dM.cell (hq.slT (Below.slT hB hon)) dG 0 Om Ol31_0 3 rfl)) hS <| Tf 6 rfl rfl fU hS <| Tk 7 rfl (fun _ hq => dk (v := mayV) rfl eE (At.cell (hq.at a) rfl)) hS <| Ti 8 rfl rfl hS <| Tk 9 rfl (fun _ hq => dJ (v := mayV) rfl (hq.slT (Below.slT hB hmay)) rfl ea Om Ol31_0) hS <| Tk 10 rfl (fun _ hq => fq rfl df (dM.cell (hq.slT (Below.slT hB hmay)) dG 0 Om Ol31_0 0 rfl) (dM.cell (hq.slT (Below.slT hB hmay)) dG 0 Om Ol31_0 1 rfl) (dM.cell (hq.slT (Below.slT hB hmay)) dG 0 Om Ol31_0 2 rfl) (dM.cell (hq.slT (Below.slT hB hmay)) dG 0 Om Ol31_0 3 rfl)) hS <| To 5 rfl (TC (vs := [.agg #[_, _, _, _]]) vX (gg _ _) rfl fun r az u b => ⟨.inl (hS.trans u), ?_⟩)
 have aa := (Below.size hB)
 replace hB := Ze hB u
 replace a := u.at a
 replace hS := hS.trans u
 replace b := dh.mono b aa
 refine To 11 rfl (TC (vs := [.agg #[_, _, _, _]]) vX (gg _ _) rfl fun g aA s d => ⟨.inl (hS.trans s), ?_⟩)
 have ab := dh.lt2 b
 have ac := (Below.size hB)
 replace hB := Ze hB s
 replace a := s.at a
 replace b := s.ow b
 replace hS := hS.trans s
 have i := eO.new ab d
 replace d := dh.mono d ac
 refine Tw 12 r rfl rfl hS <| Tw 13 g rfl rfl hS <| Td <| Zr <| Zw (.int .i64 0) rfl <| cT <| c7 ?_
 refine dw (σ := (Nat)) [4, 9, 10, 47, 48, 49, 50, 51, 52, 53, 54, 55, 56, 57, 58, 59, 60, 61, 62, 63, 64, 65, 66, 67, 68, 69, 70, 71, 72, 73, 74, 75] (fun p => [(9, .int .i64 (p : Int))]) (fun p W => (Below w.heap.size w W) ∧ (At W C _ 24) ∧ (dh rV 1 4 W w.heap.size r _) ∧ (eO r g) ∧ (dh rV 1 4 W w.heap.size g _) ∧ (p ≤ 2 ^ S.n.toNat) ∧ (∀ q, q < p → ((zQ S o).testBit q = true → yF l q o = true) ∧ (yF l q o = true → (jf S o).testBit q = true)) ∧ (True)) (fun p => 2 ^ S.n.toNat - p) (0) ⟨rfl, trivial⟩ ⟨hB, a, b, i, d, (Nat.zero_le _), ff, trivial⟩ ?_
 clear hB a b i d
 rintro p aB aC ⟨hB, a, b, i, d, hp, hq3, _⟩ aD y
 refine cY fun aE ad => Zr <| Zi rfl <| Zf rfl fQ <| Zl rfl dB a rfl <| ZC NN (pb _ _ (by first | assumption | omega) (by first | assumption | omega)) rfl fun aF aG z ae => ?_
 replace hB := Ze hB z
 replace a := z.at a
 replace b := z.ow b
 replace d := z.ow d
 obtain rfl := ae
 refine Zv (dL rfl rfl) <| cT <| ZQ rfl (fun af => ?_) fun af => ?_
 refine c9 <| ad _ _ <| cY fun aH A => c7 <| Zr <| Zw xa rfl <| Zi rfl <| Zi rfl <| ZC OJ (nk _ l p o _ (Below.slT hB hl) hlb hlr Om Om) rfl fun aI aJ B ag => ?_
 replace hB := Ze hB B
 replace a := B.at a
 replace b := B.ow b
 replace d := B.ow d
 obtain rfl := ag
 refine Zb rfl <| cT <| Zr <| Zw r rfl <| Zi rfl <| Zv (dJ (v := r) rfl b.sl rfl kE Om Ol31_0) <| Zv (dk (v := .bool _) rfl qb (dM.cell b.sl kD false Om Ol31_0 0 rfl)) <| ZX rfl (fun j => ?_) fun j => ?_
 refine Zb rfl <| Zv (fy rfl) <| Zb rfl <| ZX rfl (fun m => ?_) fun m => ?_
 refine Zs <| Zs <| Zs <| Zs <| Zs <| Zs <| Zs <| Zs <| Zw (.bool true) rfl <| cT <| dz rfl <| Zr <| Zw (.bool false) rfl <| cT ?_
 refine Zt <| dE (v := .bool false) rfl ⟨hB, ?_⟩
 exact rf hr hm (o := o) (p := p) Om Om (fun h => Bool.noConfusion ((h.1 (Gw Om j)).symm.trans (jc m)))
 refine Zb rfl <| ZX rfl (fun e => ?_) fun e => ?_
 refine Zw g rfl <| Zi rfl <| Zv (dJ (v := g) rfl d.sl rfl kE Om Ol31_0) <| Zv (dk (v := .bool _) rfl qb (dM.cell d.sl kD false Om Ol31_0 0 rfl)) <| Zv (fy rfl) <| Zb rfl <| Zb rfl <| cT <| ZQ rfl (fun f => ?_) fun f => ?_
 refine Zr <| Zw (.bool false) rfl <| cT <| Zt <| dE (v := .bool false) rfl ⟨hB, ?_⟩
 exact rf hr hm (o := o) (p := p) Om Om (fun h => FZ Om (jc f) (h.2 e))
 refine c9 <| A _ _ <| cZ <| Zi rfl <| Zv (dp rfl rfl Om Om) <| Zi rfl <| cT ?_
 exact y _ _ (p + 1) Za ⟨rfl, trivial⟩ ⟨hB, a, b, i, d, Om, (ey hq3 ⟨fun h1 => by first | exact ie m | exact e | exact absurd h1 (FZ Om j), fun h2 => by first | exact Gw Om (ie f) | exact absurd h2 (by rw [e]; decide)⟩), trivial⟩ Zo
 refine Zs <| Zs <| Zs <| Zs <| Zs <| Zw (.bool false) rfl <| Zw (.bool false) rfl <| cT <| d4 rfl <| c9 <| A _ _ <| cZ <| Zi rfl <| Zv (dp rfl rfl Om Om) ?_
 refine Zi rfl <| cT ?_
 exact y _ _ (p + 1) Za ⟨rfl, trivial⟩ ⟨hB, a, b, i, d, Om, (ey hq3 ⟨fun h1 => by first | exact ie m | exact e | exact absurd h1 (FZ Om j), fun h2 => by first | exact Gw Om (ie f) | exact absurd h2 (by rw [e]; decide)⟩), trivial⟩ Zo
 refine Zs <| Zs <| Zw (.bool false) rfl <| Zw (.bool false) rfl <| Zb rfl <| ZX rfl (fun e => ?_) fun e => ?_
 refine Zw g rfl <| Zi rfl <| Zv (dJ (v := g) rfl d.sl rfl kE Om Ol31_0) <| Zv (dk (v := .bool _) rfl qb (dM.cell d.sl kD false Om Ol31_0 0 rfl)) <| Zv (fy rfl) <| Zb rfl <| Zb rfl <| cT <| ZQ rfl (fun f => ?_) fun f => ?_
 refine Zr <| Zw (.bool false) rfl <| cT <| Zt <| dE (v := .bool false) rfl ⟨hB, ?_⟩
 exact rf hr hm (o := o) (p := p) Om Om (fun h => FZ Om (jc f) (h.2 e))
 refine c9 <| A _ _ <| cZ <| Zi rfl <| Zv (dp rfl rfl Om Om) <| Zi rfl <| cT ?_
 exact y _ _ (p + 1) Za ⟨rfl, trivial⟩ ⟨hB, a, b, i, d, Om, (ey hq3 ⟨fun h1 => by first | exact ie m | exact e | exact absurd h1 (FZ Om j), fun h2 => by first | exact Gw Om (ie f) | exact absurd h2 (by rw [e]; decide)⟩), trivial⟩ Zo
 refine Zs <| Zs <| Zs <| Zs <| Zs <| Zw (.bool false) rfl <| Zw (.bool false) rfl <| cT <| d4 rfl <| c9 <| A _ _ <| cZ <| Zi rfl <| Zv (dp rfl rfl Om Om) ?_
 refine Zi rfl <| cT ?_
 exact y _ _ (p + 1) Za ⟨rfl, trivial⟩ ⟨hB, a, b, i, d, Om, (ey hq3 ⟨fun h1 => by first | exact ie m | exact e | exact absurd h1 (FZ Om j), fun h2 => by first | exact Gw Om (ie f) | exact absurd h2 (by rw [e]; decide)⟩), trivial⟩ Zo
 refine dr <| Y _ _ <| cZ <| Zi rfl <| Zv (dp rfl rfl Om Om) <| Zi rfl <| cT ?_
 exact U _ _ (o + 1) Za ⟨rfl, trivial⟩ ⟨hB, a, Om, (ey hq2 ((mq hr hm Om).2 (fun q hq => hq3 q Om))), trivial⟩ Zo
 refine dr <| T _ _ <| Zr <| Zw (.bool true) rfl <| cT <| Zt <| dE (v := .bool true) rfl ⟨hB, ?_⟩
 obtain rfl : o = S.on.length := by omega
 exact Bu (gX.2 ⟨hr, hm, hq2⟩)
end
section
open Go Go.RowKit
section
variable {P : Program} {f : Nat → Value} {w w' : World} {d : Option Nat} {ty : TypeId} {ps : String} {af : Array Edge} {g : Option (Nat × Bool)} {x y : Operand}
variable {t : TypeId} {v u : Value} {T e : TypeId} {K : Value → World → Prop} {sz by_ N : Nat}
variable {α : Type} {enc : α → List Value} {l : List α}
theorem Ga (he : ∀ a, (enc a).length = sz) {a dd : α} {k r : Nat} (hk : k < l.length) (hr : r < sz) (hu : enc a = (enc (l.getD k dd)).set r u) :
  (l.set k a).flatMap enc = (l.flatMap enc).take (k * sz + r) ++ [u] ++ (l.flatMap enc).drop (k * sz + r + 1) := by
 have hle : k * sz + sz ≤ l.length * sz := by rw [← Nat.succ_mul]; exact Nat.mul_le_mul_right _ hk
 have hfl := ky he l
 have e0 : l.set k (l.getD k dd) = l := by
  rw [List.getD_eq_getElem?_getD, List.getElem?_eq_getElem hk]
  simp
 have e1 := sJ he (l.getD k dd) l k hk
 rw [e0] at e1
 rw [sJ he a l k hk, hu]
 have hq : (l.flatMap enc).take (k * sz + r) ++ [u] ++ (l.flatMap enc).drop (k * sz + r + 1) = (l.flatMap enc).set (k * sz + r) u := by
  rw [List.set_eq_take_append_cons_drop, if_pos (by omega), List.append_assoc]; rfl
 rw [hq]
 have hA : ((l.flatMap enc).take (k * sz)).length = k * sz := by rw [List.length_take]; omega
 have hB : (enc (l.getD k dd)).length = sz := he _
 generalize hA' : (l.flatMap enc).take (k * sz) = A at *
 generalize hC' : (l.flatMap enc).drop (k * sz + sz) = C at *
 rw [e1, List.append_assoc, List.append_assoc, List.set_append, if_neg (by omega), hA, show k * sz + r - k * sz = r by omega, List.set_append, if_pos (by omega)]
theorem Hk {a dd : α} {j : Int} {r : Nat} (hx : dO f x = .pointer (some ⟨sP v, A8 v + j.toNat * sz + r, none⟩)) (hy : dO f y = u) (hT : fp P t = true) (he : ∀ a, (enc a).length = sz)
  (h1 : u.oneCell' = true) (hr : r < sz) (hu : enc a = (enc (l.getD j.toNat dd)).set r u) (ho : dh enc sz e w N v l) (h0 : 0 ≤ j) (hj : j < l.length)
  (hK : ∀ w', w.grownBy w' v.ownBlock → dh enc sz e w' N v (l.set j.toNat a) → K undef w') : Yd P ⟨d, .store t x y, ty, ps, af, g⟩ f w K := by
 obtain ⟨hl, hor⟩ := ho
 rcases hor with ⟨_, h⟩ | ⟨q, cap, cur, rfl, hg, hh, hnc, hcm, hcs, ht⟩
 ·omega
 have hle : l.length * sz ≤ cap * sz := Nat.mul_le_mul_right _ hnc
 have hjs : j.toNat * sz + sz ≤ l.length * sz := by rw [← Nat.succ_mul]; exact Nat.mul_le_mul_right _ (by omega)
 have hst := run_storeCells_at P q (j.toNat * sz + r) e [u] 0 cur w hh (by simp; omega) (fun v h => by simp at h; subst h; exact h1)
 rw [Nat.add_zero] at hst
 have hw := ym (N := N) (e := e) (o := j.toNat * sz + r) (new := [u]) hl hg hh hnc hcm hcs ht (by simp; omega)
 have hgr : ∀ r, w.grownBy (w.setRow q r) (some q) := fun r => ⟨rfl, rfl, rfl, by simp, fun k _ hk => setRow_other w q k r (fun e => hk (by rw [e]))⟩
 refine .skip (w' := w.setRow q (cur.toList.take (j.toNat * sz + r) ++ [u] ++ cur.toList.drop (j.toNat * sz + r + 1)).toArray) ?_ (hK _ (hgr _) ?_)
 ·have h2 := congrFun (lR hT).2 w
  have hcs1 : u.cells = #[u] := by cases u <;> first | rfl | simp [Value.oneCell'] at h1
  have hcs2 : (storeVar t ⟨q, j.toNat * sz + r, none⟩ u).run P w = .ok () (w.setRow q (cur.toList.take (j.toNat * sz + r) ++ [u] ++ cur.toList.drop (j.toNat * sz + r + 1)).toArray) := by
   simp only [List.length_singleton] at hst
   simp [storeVar, h2, hcs1, hst]
  have hx' : dO f x = .pointer (some ⟨q, j.toNat * sz + r, none⟩) := by rw [hx]; simp [sP, A8]
  simp [execOp, hx', hy, Instr.storeAt, Instr.sureAddr, hcs2]
 ·unfold dh
  rw [List.length_set, Ga he (by omega) hr hu]
  simpa using hw
theorem CD {w0 : World} {n : Nat} {xs : List Value} {i : Int} {ki : IntKind} {xi : Operand} (hx : dO f x = v) (hs : Sl w0 sz v n xs) (hT : fO P t = some (e, sz, by_)) (hi : dO f xi = .int ki i) (h0 : 0 ≤ i) (h1 : i ≤ n) :
  (execOp (dO f) ⟨d, .slice t x (some xi) none none, ty, ps, af, g⟩).run P w = .ok (.value (fV sz v i.toNat n (iU v))) w := by
 obtain ⟨hv, hn, _, _⟩ := hs.eqv
 unfold fO at hT
 cases hu : P.underlying t with
 | none => simp [hu] at hT
 | some desc =>
  cases desc <;> simp [hu] at hT
  obtain ⟨i', hi', rfl, rfl, rfl⟩ := hT
  unfold fV
  rw [hv] at hx
  generalize zI v = A at *
  generalize iU v = C at *
  simp [execOp, hx, hi, Instr.sliceAt, Instr.slice, run_underlying hu, Instr.sliceBounds, Instr.sliceBound, asIntOf, sizeOf, typeInfo, hi', h0, h1]
theorem CL {w0 : World} {n : Nat} {xs : List Value} {j : Int} {kj : IntKind} {xj : Operand} (hx : dO f x = v) (hs : Sl w0 sz v n xs) (hT : fO P t = some (e, sz, by_)) (hj : dO f xj = .int kj j) (h0 : 0 ≤ j) (h1 : j ≤ iU v) :
  (execOp (dO f) ⟨d, .slice t x none (some xj) none, ty, ps, af, g⟩).run P w = .ok (.value (fV sz v 0 j.toNat (iU v))) w := by
 obtain ⟨hv, hn, _, _⟩ := hs.eqv
 unfold fO at hT
 cases hu : P.underlying t with
 | none => simp [hu] at hT
 | some desc =>
  cases desc <;> simp [hu] at hT
  obtain ⟨i', hi', rfl, rfl, rfl⟩ := hT
  unfold fV
  rw [hv] at hx
  generalize zI v = A at *
  generalize iU v = C at *
  have hC : j ≤ (C : Int) := h1
  simp [execOp, hx, hj, Instr.sliceAt, Instr.slice, run_underlying hu, Instr.sliceBounds, Instr.sliceBound, asIntOf, sizeOf, typeInfo, hi', h0, hC]
theorem Di {i j : Nat} (he : ∀ a, (enc a).length = sz) (hone : (l.flatMap enc).all Value.oneCell' = true) (hx : dO f x = fV sz v 0 i (iU v)) (hy : dO f y = fV sz v j l.length (iU v)) (hT : fO P t = some (e, sz, by_))
  (ho : dh enc sz e w N v l) (hij : i ≤ j) (hj : j ≤ l.length) (hi : i < l.length)
  (hK : ∀ v' w', w.grownBy w' v.ownBlock → dh enc sz e w' N v' (l.take i ++ l.drop j) → v'.ownBlock = v.ownBlock → K v' w') : Yd P ⟨d, .call ⟨.builtin .append, #[x, y], #[t, t]⟩, ty, ps, af, g⟩ f w K := by
 unfold fO at hT
 cases hun : P.underlying t with
 | none => simp [hun] at hT
 | some desc =>
  cases desc <;> simp [hun] at hT
  rename_i e'
  obtain ⟨i', hi', rfl, h1, rfl⟩ := hT
  subst h1
  have ho0 := ho
  obtain ⟨hl, hor⟩ := ho
  rcases hor with ⟨_, h⟩ | ⟨q, cap, cur, rfl, hg, hh, hnc, hcm, hcs, ht⟩
  ·omega
  have hle : l.length * i'.size ≤ cap * i'.size := Nat.mul_le_mul_right _ hnc
  have hfl := ky he (l.drop j)
  have hft := ky he (l.take i)
  have hll := ky he l
  have hxe : dO f x = .slice (some ⟨q, 0, none⟩) i cap := by
   rw [hx]
   have hc0 : ¬ cap = 0 := by omega
   simp [fV, zI, iU, hc0, Addr.add]
  obtain ⟨a, hye, hac⟩ : ∃ a : Addr, dO f y = .slice (some a) (l.length - j) (cap - j) ∧ (j < l.length → a = ⟨q, j * i'.size, none⟩) := by
   rw [hy]
   by_cases e : cap = j
   ·exact ⟨⟨q, 0, none⟩, by simp [fV, zI, iU, e], fun h => by omega⟩
   ·exact ⟨⟨q, j * i'.size, none⟩, by
     show Value.slice (if cap = j then some ⟨q, 0, none⟩ else (some (⟨q, 0, none⟩ : Addr)).map (·.add (j * i'.size))) (l.length - j) (cap - j) = _
     rw [if_neg e, Option.map_some, gR, Nat.zero_add], fun _ => rfl⟩
  have hnews : ∀ k u, ((l.drop j).flatMap enc)[k]? = some u → w.cell? (a.add k) = some u := fun k u hu => by
   have hlt : k < ((l.drop j).flatMap enc).length := (List.getElem?_eq_some_iff.1 hu).1
   have hjl : j < l.length := Classical.byContradiction fun hn => by
    rw [List.drop_eq_nil_of_le (by omega)] at hlt
    simp at hlt
   rw [hac hjl, gR]
   have hs := ho0.sl
   have hc := Sl.cell hs (j * i'.size + k) u (by rw [← List.getElem?_drop, ← qh he]; exact hu)
   simpa [sP, A8] using hc
  have hone2 : ∀ u ∈ (l.drop j).flatMap enc, u.oneCell' = true := fun u hu => by
   rw [qh he] at hu
   exact List.all_eq_true.1 hone u (List.mem_of_mem_drop hu)
  have hmul : (i + (l.length - j)) * i'.size ≤ l.length * i'.size := Nat.mul_le_mul_right _ (by omega)
  rw [Nat.add_mul] at hmul
  have hdl : ((l.drop j).flatMap enc).length = (l.length - j) * i'.size := by rw [hfl, List.length_drop]
  have hr := run_append_room (P := P) w t ty e' i' hun hi' q i cap cur hh a (l.length - j) (cap - j) ((l.drop j).flatMap enc) hdl hnews hone2 (by omega) (by rw [hdl, hcs]; omega)
  refine .val (v := .slice (some ⟨q, 0, none⟩) (i + (l.length - j)) cap) (w' := w.setRow q (cur.toList.take (i * i'.size) ++ (l.drop j).flatMap enc ++ cur.toList.drop (i * i'.size + ((l.drop j).flatMap enc).length)).toArray) ?_
   (hK _ _ ⟨rfl, rfl, rfl, by simp, fun k _ hk => setRow_other w q k _ (fun e => hk (by rw [e]; rfl))⟩ ?_ rfl)
  ·simp [execOp, resolve, invoke, builtin, hxe, hye, hr]
  ·have hlen2 : (l.take i ++ l.drop j).length = i + (l.length - j) := by rw [List.length_append, List.length_take, List.length_drop]; omega
   unfold dh
   rw [hlen2]
   refine ⟨by rw [ky he, hlen2], .inr ⟨q, cap, _, rfl, hg, setRow_heap w q cur _ e' (0, 0) hh, by omega, hcm, by simp only [List.size_toArray, List.length_append, List.length_take, List.length_drop, Array.length_toList, hdl]; omega, ?_⟩⟩
   rw [List.flatMap_append, qo he, ← ht, List.take_take]
   have e1 : min (i * i'.size) (l.length * i'.size) = i * i'.size := Nat.min_eq_left (by omega)
   have e2 : (cur.toList.take (i * i'.size)).length = i * i'.size := by rw [List.length_take, Array.length_toList]; omega
   rw [e1]
   have e3 : (i + (l.length - j)) * i'.size = (cur.toList.take (i * i'.size) ++ (l.drop j).flatMap enc).length := by rw [List.length_append, e2, hdl, Nat.add_mul]
   rw [e3]
   exact List.take_left
end
end
section
open Go Go.RowKit Go.ChangeShapes Go.WideShapes Go.ChangeAt Go.Joins Go.Deep
def encV (v : Value) : List Value := [v]
theorem fW (v : Value) : (encV v).length = 1 := rfl
structure LL (w : World) (vs : List Value) (L : List (List Int)) : Prop where
 len : vs.length = L.length
 get : ∀ k, k < L.length → dM d9 1 w (vs.getD k undef) (L.getD k [])
theorem LL.nil (w : World) : LL w [] [] := ⟨rfl, fun k hk => by cases hk⟩
theorem LL.below {w W : World} {vs : List Value} {L : List (List Int)} (h : Below w.heap.size w W) (k : LL w vs L) : LL W vs L := ⟨k.len, fun i hi => Below.slT h (k.get i hi)⟩
theorem LL.ext {w W : World} {vs : List Value} {L : List (List Int)} (h : eo w W) (k : LL w vs L) : LL W vs L := ⟨k.len, fun i hi => eo.slT h (k.get i hi)⟩
section
variable {H : Type} {encH : TypeId × Value → H} {P : Program} {w : World} {base : Nat} {held : Bool} {r : Reach} {b0 : Nat} {t e : TypeId}
end
end
section
open Go Go.RowKit
def nC (cols : Int) (l : List Int) : Bool := (List.range l.length).all fun k => decide (0 ≤ l.getD k 0) && (decide (l.getD k 0 < cols) && decide (0 < k → l.getD (k - 1) 0 < l.getD k 0))
theorem iV {cols : Int} {l : List Int} : nC cols l = true ↔ ∀ k, k < l.length → 0 ≤ l.getD k 0 ∧ l.getD k 0 < cols ∧ (0 < k → l.getD (k - 1) 0 < l.getD k 0) := by
 unfold nC
 rw [List.all_eq_true]
 constructor
 ·intro h k hk
  have := h k (List.mem_range.2 hk)
  simp only [Bool.and_eq_true, decide_eq_true_eq] at this
  exact ⟨this.1, this.2.1, this.2.2⟩
 ·intro h k hk
  obtain ⟨h1, h2, h3⟩ := h k (List.mem_range.1 hk)
  simp only [Bool.and_eq_true, decide_eq_true_eq]
  exact ⟨h1, h2, h3⟩
def dX (cols : Int) (L : List (List Int)) : Bool := decide (0 ≤ cols) && (decide (cols ≤ 4000) && L.all (nC cols))
theorem fl {cols : Int} {L : List (List Int)} : dX cols L = true ↔ 0 ≤ cols ∧ cols ≤ 4000 ∧ ∀ i, i < L.length → nC cols (L.getD i []) = true := by
 unfold dX
 rw [Bool.and_eq_true, Bool.and_eq_true, decide_eq_true_eq, decide_eq_true_eq, List.all_eq_true]
 constructor
 ·rintro ⟨h1, h2, h3⟩; exact ⟨h1, h2, fun i hi => h3 _ (dS hi)⟩
 ·rintro ⟨h1, h2, h3⟩
  refine ⟨h1, h2, fun x hx => ?_⟩
  obtain ⟨k, hk, rfl⟩ := fo (d := []) hx
  exact h3 k hk
def vy (l : List Int) : Nat → Int
 | 0 => -1
 | k + 1 => l.getD k 0
theorem tT (l : List Int) : vy l 0 = -1 := rfl
theorem tL (l : List Int) (k : Nat) : vy l (k + 1) = l.getD k 0 := rfl
theorem Me {cols : Int} {L : List (List Int)} {i k : Nat} (hi : i < L.length) (hk : k < (L.getD i []).length) (hb : ∀ q, q < k → 0 ≤ (L.getD i []).getD q 0) (h : (L.getD i []).getD k 0 ≤ vy (L.getD i []) k ∨ cols ≤ (L.getD i []).getD k 0) : Value.bool false = .bool (dX cols L) := ot fun hr => by
 obtain ⟨h1, h2, h3⟩ := iV.1 ((fl.1 hr).2.2 i hi) k hk
 rcases h with h | h
 ·cases k with
  | zero => rw [tT] at h; omega
  | succ k =>
   have := h3 (by omega)
   rw [tL] at h
   simp only [Nat.add_sub_cancel] at this
   omega
 ·omega
theorem KB {cols : Int} {l : List Int} {k : Nat} (h : ∀ q, q < k → 0 ≤ l.getD q 0 ∧ l.getD q 0 < cols ∧ (0 < q → l.getD (q - 1) 0 < l.getD q 0)) (h1 : ¬ l.getD k 0 ≤ vy l k) (h2 : ¬ cols ≤ l.getD k 0) :
  ∀ q, q < k + 1 → 0 ≤ l.getD q 0 ∧ l.getD q 0 < cols ∧ (0 < q → l.getD (q - 1) 0 < l.getD q 0) := ey h (by
 cases k with
 | zero => rw [tT] at h1; exact ⟨by omega, by omega, fun h => by omega⟩
 | succ k =>
  have := h k (by omega)
  rw [tL] at h1
  exact ⟨by omega, by omega, fun _ => by simp only [Nat.add_sub_cancel]; omega⟩)
theorem Qt {cols : Int} {L : List (List Int)} (h0 : 0 ≤ cols) (h : ∀ i, i < L.length → nC cols (L.getD i []) = true) : Value.bool (decide (cols ≤ 4000)) = .bool (dX cols L) := congrArg Value.bool (by
 rw [Bool.eq_iff_iff, fl, decide_eq_true_eq]
 exact ⟨fun hc => ⟨h0, hc, h⟩, fun hc => hc.2.1⟩)
theorem QS {cols : Int} {L : List (List Int)} (h0 : ¬ 0 ≤ cols) : Value.bool false = .bool (dX cols L) := ot fun h => h0 (fl.1 h).1
def oF (L : List (List Int)) (cols : List Int) : Bool := L.all fun l => l.any fun c => decide (c ∈ cols)
theorem A9 {L : List (List Int)} {cols : List Int} : oF L cols = true ↔ ∀ i, i < L.length → ∃ c, c ∈ L.getD i [] ∧ c ∈ cols := by
 unfold oF
 rw [List.all_eq_true]
 constructor
 ·intro h i hi
  have := h _ (dS (d := []) hi)
  rw [List.any_eq_true] at this
  obtain ⟨c, h1, h2⟩ := this
  exact ⟨c, h1, of_decide_eq_true h2⟩
 ·intro h l hl
  obtain ⟨k, hk, rfl⟩ := fo (d := []) hl
  obtain ⟨c, h1, h2⟩ := h k hk
  rw [List.any_eq_true]
  exact ⟨c, h1, decide_eq_true h2⟩
end
section
open Go Go.RowKit
def Ap (n : Int) : List Value := [.int .u8 n]
theorem yv {l : List Int} : (l.flatMap Ap).all Value.oneCell' = true := ul (fun _ => rfl) l
theorem FX (l : List Int) : l.flatMap Ap = l.map (Value.int .u8) := by
 induction l with
 | nil => rfl
 | cons a l ih => simp [List.flatMap_cons, ih, Ap]
def mM (l : List UInt8) : Value := .string ⟨l.toArray⟩
theorem A3 (a b : List UInt8) (h : mM a = mM b) : a = b := by
 simpa [mM] using h
theorem Bo (a c : List UInt8) : ((⟨a.toArray⟩ : ByteArray) == ⟨c.toArray⟩) = true ↔ a = c := by
 show (a.toArray == c.toArray) = true ↔ a = c
 simp
def oy (xs : List Int) : List UInt8 := xs.map fun n => UInt8.ofNat n.toNat
theorem vu : ∀ (ns : List Int) (s : ByteArray), ns.foldl (fun r n => r.push (UInt8.ofNat n.toNat)) s = ⟨s.data ++ (oy ns).toArray⟩
 | [], s => by simp [oy]
 | n :: ns, s => by
  rw [List.foldl_cons, vu ns]
  simp [ByteArray.push, oy]
section
variable {P : Program} {f : Nat → Value} {w : World} {d : Option Nat} {ty : TypeId} {ps : String} {af : Array Edge} {g : Option (Nat × Bool)} {x y : Operand} {v : Value}
theorem B9 {src dst e : TypeId} {xs : List Int} (hx : dO f x = v) (hs : dM Ap 1 w v xs) (h1 : P.underlying src = some (.slice e)) (h2 : P.underlying e = some (.int .u8)) (h3 : P.underlying dst = some .string) :
  (execOp (dO f) ⟨d, .convert src dst x, ty, ps, af, g⟩).run P w = .ok (.value (mM (oy xs))) w := by
 have hsl : Sl w 1 v xs.length (xs.flatMap Ap) := hs
 have hc := hsl.cell
 obtain ⟨hv, hn, h0, ha⟩ := hsl.eqv
 cases hA : zI v with
 | none =>
  have h4 := h0 hA
  have hxs : xs = [] := List.eq_nil_of_length_eq_zero (by omega)
  rw [hA] at hv
  rw [hv] at hx
  subst hxs
  have hr := run_convert_bytes_string w src dst e none 0 (iU v) h1 h2 h3
  rw [show Conv.bytesToString (.slice none 0 (iU v)) = pure (.string .empty) from rfl] at hr
  have hr2 : (convert src dst (.slice none 0 (iU v))).run P w = .ok (.string ⟨#[]⟩) w := hr
  have hx2 : dO f x = .slice none 0 (iU v) := hx
  simp [execOp, hx2, hr2, mM, oy]
 | some a =>
  rw [hA] at hv
  have hl := _root_.Go.run_loadCells_list (P := P) w a (xs.map (Value.int .u8)) (fun j u hj => by
   have hj' : j < xs.length := by
    have := (List.getElem?_eq_some_iff.1 hj).1
    simpa using this
   rw [ha a hA (by omega), gR]
   exact hc j u (by rw [FX]; exact hj))
  rw [List.length_map] at hl
  have hr := run_convert_bytes_string w src dst e (some a) xs.length (iU v) h1 h2 h3
  rw [run_bytesToString w a xs.length (iU v) xs hl, vu] at hr
  rw [hv] at hx
  simp [execOp, hx, hr, mM]
end
section
variable {w W : World}
theorem Below.ow {α : Type} {enc : α → List Value} {sz : Nat} {T : TypeId} {N : Nat} {v : Value} {l : List α} (h : Go.RowKit.Below w.heap.size w W) (k : dh enc sz T w N v l) : dh enc sz T W N v l :=
 World.ownsRow.kept k (row := none) ⟨h.os, h.tape, h.output, h.size, fun j hj _ => h.block j hj⟩ (by cases v.ownBlock <;> simp)
theorem Below.mapI {α β : Type} {enc : α → Value} {encV : β → Value} {b : Nat} {l : List (α × β)} (h : Go.RowKit.Below w.heap.size w W) (k : dR enc encV w b l) : dR enc encV W b l := k.moved (h.block b k.lt)
end
end
section
open Go Go.RowKit
section
variable {P : Program} {f : Nat → Value} {w : World} {d : Option Nat} {ty : TypeId} {ps : String} {af : Array Edge} {g : Option (Nat × Bool)} {x y : Operand} {t t2 : TypeId} {a : Int}
theorem NZ (hx : dO f x = .int .i64 a) (hy : dO f y = .int .u64 8) (h0 : 0 ≤ a) : (execOp (dO f) ⟨d, .binOp .shr t x y t2, ty, ps, af, g⟩).run P w = .ok (.value (.int .i64 (a / 256))) w := by
 obtain ⟨m, rfl⟩ := Int.eq_ofNat_of_zero_le h0
 rw [sL hx hy (by omega) (by decide)]
 simp
theorem GO {desc : TypeDesc} (h : dO f x = .int .i64 a) (hs : P.underlying t = some desc) (ht : P.underlying t2 = some (.int .u8)) :
  (execOp (dO f) ⟨d, .convert t t2 x, ty, ps, af, g⟩).run P w = .ok (.value (.int .u8 (a % 256))) w := by
 rw [Gq h hs ht]
 rfl
end
theorem nh {α : Type} [DecidableEq α] {l : List α} {k : α} (h : (g6 (ft l) k).getD false = true) : k ∈ l := by
 rw [ls, decide_eq_true_eq] at h; exact h
theorem lj {α : Type} [DecidableEq α] {l : List α} {k : α} (h : (g6 (ft l) k).getD false = false) : k ∉ l := by
 rw [ls, decide_eq_false_iff_not] at h; exact h
structure LO (T : TypeId) (N : Nat) (w : World) (vs : List Value) (L : List (List Int)) : Prop where
 len : vs.length = L.length
 get : ∀ k, k < L.length → dh d9 1 T w N (vs.getD k undef) (L.getD k [])
section
variable {T : TypeId} {N : Nat} {w w' : World} {vs : List Value} {L : List (List Int)}
theorem LO.nil : LO T N w [] [] := ⟨rfl, fun k hk => by cases hk⟩
theorem LO.ll (h : LO T N w vs L) : LL w vs L := ⟨h.len, fun k hk => (h.get k hk).sl⟩
theorem LO.ext (h : eo w w') (k : LO T N w vs L) : LO T N w' vs L := ⟨k.len, fun i hi => h.ow (k.get i hi)⟩
theorem LO.mono {N' : Nat} (k : LO T N w vs L) (h : N' ≤ N) : LO T N' w vs L := ⟨k.len, fun i hi => (k.get i hi).mono h⟩
theorem LO.grownAt {b : Nat} {c : Array Value} {T' : TypeId} (k : LO T N w vs L) (hm : At w b c T') (hG : w.grownBy w' (some b)) (hT : T' ≠ T) : LO T N w' vs L := ⟨k.len, fun i hi => (k.get i hi).grownAt hm hG hT⟩
theorem LO.grownMap {α β : Type} {enc : α → Value} {encV : β → Value} {b : Nat} {l : List (α × β)} (k : LO T N w vs L) (hm : dR enc encV w b l) (hG : w.grownBy w' (some b)) : LO T N w' vs L := ⟨k.len, fun i hi => (k.get i hi).grownMap hm hG⟩
theorem LO.grownOw {α : Type} {enc : α → List Value} {sz N' : Nat} {T' : TypeId} {v : Value} {l : List α} (k : LO T N w vs L) (h : dh enc sz T' w N' v l) (hG : w.grownBy w' v.ownBlock) (hT : T' ≠ T) : LO T N w' vs L := ⟨k.len, fun i hi => (k.get i hi).grownOw h hG hT.symm⟩
theorem LO.one (k : LO T N w vs L) : ∀ v, v ∈ vs → Value.oneCell' v = true := fun v hv => by
 obtain ⟨j, hj, e⟩ := fo (d := undef) hv
 have h := (k.get j (by rw [← k.len]; exact hj)).sl
 rw [e] at h
 obtain ⟨h1, _⟩ := Sl.eqv h
 rw [h1]; rfl
theorem A6 {vs : List Value} (h : ∀ v, v ∈ vs → Value.oneCell' v = true) {i j : Nat} : (((vs.drop i).take j).flatMap encV).all Value.oneCell' = true := by
 rw [List.all_eq_true]
 intro v hv
 obtain ⟨u, hu, he⟩ := List.mem_flatMap.1 hv
 obtain rfl : v = u := by simpa [encV] using he
 exact h _ (List.mem_of_mem_drop (List.mem_of_mem_take hu))
theorem LO.below {W : World} (h : Below w.heap.size w W) (k : LO T N w vs L) : LO T N W vs L := ⟨k.len, fun i hi => Below.ow h (k.get i hi)⟩
theorem El {α : Type} (l : List α) (x d : α) {i : Nat} (j : Nat) (hi : i ≤ l.length) : (l.take i ++ ([x] ++ l.drop i)).getD j d = if j < i then l.getD j d else if j = i then x else l.getD (j - 1) d := by
 have hl : (l.take i).length = i := by rw [List.length_take]; omega
 simp only [List.getD_eq_getElem?_getD]
 by_cases h1 : j < i
 ·rw [if_pos h1, List.getElem?_append_left (by omega), List.getElem?_take, if_pos h1]
 ·rw [if_neg h1, List.getElem?_append_right (by omega), hl]
  by_cases h2 : j = i
  ·rw [if_pos h2, h2, Nat.sub_self]; rfl
  ·rw [if_neg h2, List.getElem?_append_right (by simp; omega), List.getElem?_drop]
   congr 2
   simp
   omega
theorem LO.put {v : Value} {l : List Int} {i : Nat} (k : LO T N w vs L) (h : dh d9 1 T w N v l) (hi : i ≤ L.length) : LO T N w (vs.take i ++ ([v] ++ vs.drop i)) (L.take i ++ ([l] ++ L.drop i)) := by
 have hl := k.len
 refine ⟨by simp [hl], fun j hj => ?_⟩
 rw [El _ _ _ _ (by omega), El _ _ _ _ hi]
 have hj2 : j < L.length + 1 := by
  rw [List.length_append, List.length_append, List.length_drop, List.length_take, List.length_singleton] at hj
  omega
 by_cases h1 : j < i
 ·rw [if_pos h1, if_pos h1]; exact k.get j (by omega)
 ·rw [if_neg h1, if_neg h1]
  by_cases h2 : j = i
  ·rw [if_pos h2, if_pos h2]; exact h
  ·rw [if_neg h2, if_neg h2]; exact k.get (j - 1) (by omega)
theorem LO.snoc {v : Value} {l : List Int} (k : LO T N w vs L) (h : dh d9 1 T w N v l) : LO T N w (vs ++ [v]) (L ++ [l]) := by
 have hp := k.put (i := L.length) h (Nat.le_refl _)
 rw [← k.len, List.take_length, List.drop_length, List.append_nil, k.len, List.take_length, List.drop_length, List.append_nil] at hp
 exact hp
theorem LL.snoc {v : Value} {l : List Int} (k : LL w vs L) (h : dM d9 1 w v l) : LL w (vs ++ [v]) (L ++ [l]) := by
 have hl := k.len
 refine ⟨by simp [hl], fun j hj => ?_⟩
 rw [List.length_append, List.length_singleton] at hj
 by_cases h1 : j < L.length
 ·have e1 : (vs ++ [v]).getD j undef = vs.getD j undef := by simp only [List.getD_eq_getElem?_getD]; rw [List.getElem?_append_left (by omega)]
  have e2 : (L ++ [l]).getD j [] = L.getD j [] := by simp only [List.getD_eq_getElem?_getD]; rw [List.getElem?_append_left (by omega)]
  rw [e1, e2]; exact k.get j h1
 ·obtain rfl : j = L.length := by omega
  have e1 : (vs ++ [v]).getD L.length undef = v := by simp only [List.getD_eq_getElem?_getD]; rw [List.getElem?_append_right (by omega), hl, Nat.sub_self]; rfl
  have e2 : (L ++ [l]).getD L.length [] = l := by simp only [List.getD_eq_getElem?_getD]; rw [List.getElem?_append_right (by omega), Nat.sub_self]; rfl
  rw [e1, e2]; exact h
end
end
section
open Go Go.RowKit
def nX : List Int → List Int → Bool
 | a :: aq, b :: bs => if a = b then nX aq bs else decide (a < b)
 | _, _ => false
theorem E1 : ∀ a : List Int, nX a a = false
 | [] => rfl
 | a :: aq => by rw [nX, if_pos rfl]; exact E1 aq
theorem yo : ∀ a b c : List Int, nX a b = true → nX b c = true → nX a c = true
 | [], b, c, h, _ => by cases b <;> simp [nX] at h
 | a :: aq, [], c, h, _ => by simp [nX] at h
 | a :: aq, b :: bs, [], _, h => by simp [nX] at h
 | a :: aq, b :: bs, c :: cs, h1, h2 => by
  rw [nX] at h1 h2 ⊢
  by_cases e1 : a = b
  ·subst e1
   rw [if_pos rfl] at h1
   by_cases e2 : a = c
   ·subst e2
    rw [if_pos rfl] at h2 ⊢
    exact yo aq bs cs h1 h2
   ·rw [if_neg e2] at h2 ⊢; exact h2
  ·rw [if_neg e1, decide_eq_true_eq] at h1
   by_cases e2 : b = c
   ·subst e2
    rw [if_neg e1, decide_eq_true_eq]; exact h1
   ·rw [if_neg e2, decide_eq_true_eq] at h2
    rw [if_neg (by omega), decide_eq_true_eq]; omega
theorem xU : ∀ a b : List Int, a.length = b.length → a ≠ b → nX a b = true ∨ nX b a = true
 | [], [], _, h => absurd rfl h
 | [], b :: bs, h, _ => by simp at h
 | a :: aq, [], h, _ => by simp at h
 | a :: aq, b :: bs, h, hne => by
  rw [nX, nX]
  by_cases e : a = b
  ·subst e
   rw [if_pos rfl, if_pos rfl]
   exact xU aq bs (by simpa using h) (fun e => hne (by rw [e]))
  ·rw [if_neg e, if_neg (fun h => e h.symm), decide_eq_true_eq, decide_eq_true_eq]; omega
theorem JK : ∀ (a b : List Int) (k : Nat), a.length = b.length → k < a.length → (∀ q, q < k → a.getD q 0 = b.getD q 0) → a.getD k 0 ≠ b.getD k 0 → nX a b = decide (a.getD k 0 < b.getD k 0)
 | [], _, k, _, h, _, _ => by simp at h
 | a :: aq, [], k, h, _, _, _ => by simp at h
 | a :: aq, b :: bs, 0, h, h1, h2, h3 => by
  rw [nX, if_neg (by simpa using h3)]; rfl
 | a :: aq, b :: bs, k + 1, h, h1, h2, h3 => by
  have e : a = b := by simpa using h2 0 (by omega)
  rw [nX, if_pos e, JK aq bs k (by simpa using h) (by simpa using h1) (fun q hq => by simpa using h2 (q + 1) (by omega)) (by simpa using h3)]
  simp
theorem xt : ∀ (a b : List Int), a.length = b.length → (∀ q, q < a.length → a.getD q 0 = b.getD q 0) → a = b
 | [], [], _, _ => rfl
 | [], b :: bs, h, _ => by simp at h
 | a :: aq, [], h, _ => by simp at h
 | a :: aq, b :: bs, h, h1 => by
  have e : a = b := by simpa using h1 0 (by simp)
  rw [e, xt aq bs (by simpa using h) (fun q hq => by simpa using h1 (q + 1) (by simpa using hq))]
def fN (a b : List Int) : Bool := decide (a.length < b.length) || (decide (a.length = b.length) && nX a b)
theorem BX {a b : List Int} (h : a.length < b.length) : fN a b = true := by unfold fN; rw [decide_eq_true h]; rfl
theorem Gx {a b : List Int} (h : b.length < a.length) : fN a b = false := by
 unfold fN; rw [decide_eq_false (show ¬ a.length < b.length by omega), decide_eq_false (show ¬ a.length = b.length by omega)]; rfl
theorem ve {a b : List Int} (h : a.length = b.length) : fN a b = nX a b := by
 unfold fN; rw [decide_eq_false (show ¬ a.length < b.length by omega), decide_eq_true h]; rfl
theorem P2 {a b : List Int} (h : a.length ≠ b.length) : fN a b = decide (a.length < b.length) := by
 unfold fN; rw [decide_eq_false h, Bool.false_and, Bool.or_false]
theorem HM (a : List Int) : fN a a = false := by rw [ve rfl, E1]
theorem vM {a b c : List Int} (h1 : fN a b = true) (h2 : fN b c = true) : fN a c = true := by
 rcases Nat.lt_trichotomy a.length b.length with h | h | h
 ·rcases Nat.lt_trichotomy b.length c.length with k | k | k
  ·exact BX (by omega)
  ·exact BX (by omega)
  ·rw [Gx k] at h2; cases h2
 ·rcases Nat.lt_trichotomy b.length c.length with k | k | k
  ·exact BX (by omega)
  ·rw [ve h] at h1; rw [ve k] at h2; rw [ve (by omega)]; exact yo _ _ _ h1 h2
  ·rw [Gx k] at h2; cases h2
 ·rw [Gx h] at h1; cases h1
theorem Ac {a b : List Int} (h : a ≠ b) : fN a b = true ∨ fN b a = true := by
 rcases Nat.lt_trichotomy a.length b.length with k | k | k
 ·exact .inl (BX k)
 ·rw [ve k, ve k.symm]; exact xU _ _ k h
 ·exact .inr (BX k)
theorem IR {a b : List Int} (h : fN a b = true) : fN b a = false := Bool.eq_false_iff.2 fun k => by
 have := vM h k
 rw [HM] at this; cases this
def qD : List (List Int) → List Int → List (List Int)
 | [], r => [r]
 | x :: xs, r => if fN x r then x :: qD xs r else r :: x :: xs
theorem Hg : ∀ (L : List (List Int)) (r : List Int) (i : Nat), i ≤ L.length → (∀ q, q < i → fN (L.getD q []) r = true) → (i < L.length → fN (L.getD i []) r = false) → L.take i ++ ([r] ++ L.drop i) = qD L r
 | [], r, i, h, _, _ => by
  obtain rfl : i = 0 := by simpa using h
  rfl
 | x :: xs, r, 0, _, _, h => by
  have h0 : fN x r = false := by simpa using h (by simp)
  rw [qD, h0]; rfl
 | x :: xs, r, i + 1, hi, h1, h2 => by
  have h0 : fN x r = true := by simpa using h1 0 (by omega)
  rw [qD, if_pos h0, ← Hg xs r i (by simpa using hi) (fun q hq => by simpa using h1 (q + 1) (by omega)) (fun h => by simpa using h2 (by simpa using h))]
  rfl
theorem Hx (L : List (List Int)) (r : List Int) : (qD L r).length = L.length + 1 := by
 induction L with
 | nil => rfl
 | cons x xs ih =>
  rw [qD]
  split
  ·rw [List.length_cons, ih]; rfl
  ·rfl
theorem vI {L : List (List Int)} {r x : List Int} : x ∈ qD L r ↔ x ∈ L ∨ x = r := by
 induction L with
 | nil => simp [qD]
 | cons y ys ih =>
  rw [qD]
  split
  ·rw [List.mem_cons, ih, List.mem_cons, or_assoc]
  ·simp only [List.mem_cons]
   constructor
   ·rintro (h | h | h)
    ·exact .inr h
    ·exact .inl (.inl h)
    ·exact .inl (.inr h)
   ·rintro ((h | h) | h)
    ·exact .inr (.inl h)
    ·exact .inr (.inr h)
    ·exact .inl h
def Up (L : List (List Int)) : Prop := L.Pairwise fun a b => fN a b = true
theorem LT {L : List (List Int)} {r : List Int} (h : Up L) (hr : r ∉ L) : Up (qD L r) := by
 induction L with
 | nil => exact List.pairwise_singleton _ _
 | cons y ys ih =>
  obtain ⟨h1, h2⟩ := List.pairwise_cons.1 h
  rw [qD]
  split
  ·rename_i hy
   refine List.pairwise_cons.2 ⟨fun z hz => ?_, ih h2 (fun k => hr (List.mem_cons_of_mem _ k))⟩
   rcases vI.1 hz with hz | rfl
   ·exact h1 z hz
   ·exact hy
  ·rename_i hy
   have hry : fN r y = true := by
    rcases Ac (a := r) (b := y) (fun e => hr (e ▸ List.mem_cons_self ..)) with k | k
    ·exact k
    ·exact absurd k hy
   refine List.pairwise_cons.2 ⟨fun z hz => ?_, h⟩
   rcases List.mem_cons.1 hz with rfl | hz
   ·exact hry
   ·exact vM hry (h1 z hz)
def gT (ks : List (List Int)) : List (List Int) := ks.foldl qD []
theorem Gc (ks : List (List Int)) (r : List Int) : gT (iB ks r) = if r ∈ ks then gT ks else qD (gT ks) r := by
 unfold iB
 split
 ·rfl
 ·unfold gT; rw [List.foldl_append]; rfl
theorem AY {x : List Int} : ∀ (ks b : List (List Int)), x ∈ ks.foldl qD b ↔ x ∈ b ∨ x ∈ ks
 | [], b => by simp
 | k :: ks, b => by
  rw [List.foldl_cons, AY ks, vI, List.mem_cons, or_assoc]
theorem ma {ks : List (List Int)} {x : List Int} : x ∈ gT ks ↔ x ∈ ks := by
 unfold gT; rw [AY]; simp
theorem AK : ∀ (ks b : List (List Int)), (ks.foldl qD b).length = b.length + ks.length
 | [], b => rfl
 | k :: ks, b => by rw [List.foldl_cons, AK ks, Hx, List.length_cons]; omega
theorem ya (ks : List (List Int)) : (gT ks).length = ks.length := by unfold gT; rw [AK]; simp
theorem Eh : ∀ (ks b : List (List Int)), Up b → ks.Nodup → (∀ x, x ∈ ks → x ∉ b) → Up (ks.foldl qD b)
 | [], b, h, _, _ => h
 | k :: ks, b, h, hn, hd => by
  obtain ⟨n1, n2⟩ := List.nodup_cons.1 hn
  refine Eh ks _ (LT h (hd k (List.mem_cons_self ..))) n2 fun x hx hm => ?_
  rcases vI.1 hm with hm | rfl
  ·exact hd x (List.mem_cons_of_mem _ hx) hm
  ·exact n1 hx
theorem Io {ks : List (List Int)} (h : ks.Nodup) : Up (gT ks) := Eh ks [] List.Pairwise.nil h (fun x _ h => by cases h)
theorem N9 {L : List (List Int)} (h : Up L) {i j : Nat} (hij : i < j) (hj : j < L.length) : fN (L.getD i []) (L.getD j []) = true := by
 have := List.pairwise_iff_getElem.1 h i j (by omega) hj hij
 rw [List.getD_eq_getElem?_getD, List.getD_eq_getElem?_getD, List.getElem?_eq_getElem (by omega), List.getElem?_eq_getElem hj]
 exact this
theorem GP {ks : List (List Int)} {r : List Int} {i : Nat} (hn : ks.Nodup) (hr : r ∉ ks) (hi : i ≤ (gT ks).length) (h1 : ∀ q, i ≤ q → q < (gT ks).length → fN r ((gT ks).getD q []) = true) (h2 : 0 < i → fN r ((gT ks).getD (i - 1) []) = false) :
  (gT ks).take i ++ ([r] ++ (gT ks).drop i) = gT (iB ks r) := by
 rw [Gc, if_neg hr]
 refine Hg _ _ _ hi (fun q hq => ?_) (fun h => IR (h1 i (Nat.le_refl _) h))
 have hm : (gT ks).getD (i - 1) [] ∈ ks := ma.1 (dS (by omega))
 have hp : fN ((gT ks).getD (i - 1) []) r = true := by
  rcases Ac (a := (gT ks).getD (i - 1) []) (b := r) (fun e => hr (e ▸ hm)) with k | k
  ·exact k
  ·rw [h2 (by omega)] at k; cases k
 by_cases e : q = i - 1
 ·subst e; exact hp
 ·exact vM (N9 (Io hn) (show q < i - 1 by omega) (by omega)) hp
theorem HJ {S : List (List Int)} {m : Nat} (h : m < S.length) : S.take m ++ [S.getD m []] = S.take (m + 1) := by
 rw [List.take_add_one, List.getD_eq_getElem?_getD, List.getElem?_eq_getElem h]; rfl
def FV (l : List Rw) (c o p : Nat) : Bool := (l.getD c ⟨⟨0, 0⟩, 0⟩).o.testBit o && pf (l.getD c ⟨⟨0, 0⟩, 0⟩).c.m (l.getD c ⟨⟨0, 0⟩, 0⟩).c.v p
def jm (l : List Rw) (o p k : Nat) : List Int := ((List.range k).filter fun c => FV l c o p).map fun c : Nat => (c : Int)
def qA (l : List Rw) (o p : Nat) : List Int := jm l o p l.length
theorem vj (l : List Rw) (o p k : Nat) : jm l o p (k + 1) = if FV l k o p then jm l o p k ++ [(k : Int)] else jm l o p k := by
 unfold jm
 rw [List.range_succ, List.filter_append, List.map_append]
 by_cases h : FV l k o p = true
 ·simp [h]
 ·simp [h]
theorem KM {l : List Rw} {o p k : Nat} (h : FV l k o p = true) : jm l o p k ++ [(k : Int)] = jm l o p (k + 1) := by rw [vj, if_pos h]
theorem EY {l : List Rw} {o p k : Nat} (h : FV l k o p = false) : jm l o p k = jm l o p (k + 1) := by rw [vj, if_neg (by rw [h]; decide)]
theorem nA {l : List Rw} {o p k : Nat} {x : Int} : x ∈ jm l o p k ↔ ∃ c : Nat, x = c ∧ c < k ∧ FV l c o p = true := by
 unfold jm
 simp only [List.mem_map, List.mem_filter, List.mem_range]
 constructor
 ·rintro ⟨c, ⟨h1, h2⟩, rfl⟩; exact ⟨c, rfl, h1, h2⟩
 ·rintro ⟨c, rfl, h1, h2⟩; exact ⟨c, ⟨h1, h2⟩, rfl⟩
theorem sZ (l : List Rw) (o p k : Nat) : (jm l o p k).length ≤ k := by
 unfold jm
 rw [List.length_map]
 exact Nat.le_trans (List.length_filter_le _ _) (by simp)
theorem G4 (l : List Rw) (o p k : Nat) : (jm l o p k).Pairwise fun a b => a < b := by
 unfold jm
 rw [List.pairwise_map]
 refine List.Pairwise.filter _ ?_
 exact List.pairwise_lt_range.imp (fun h => by omega)
theorem BK {n : Int} {L : List Int} (h : L.Pairwise fun a b => a < b) (hb : ∀ x, x ∈ L → 0 ≤ x ∧ x < n) : nC n L = true := iV.2 fun k hk => by
 obtain ⟨h1, h2⟩ := hb _ (dS (d := 0) hk)
 refine ⟨h1, h2, fun hp => ?_⟩
 have := List.pairwise_iff_getElem.1 h (k - 1) k (by omega) hk (by omega)
 rw [List.getD_eq_getElem?_getD, List.getD_eq_getElem?_getD, List.getElem?_eq_getElem (by omega), List.getElem?_eq_getElem hk]
 exact this
theorem Ka (l : List Rw) (o p : Nat) : nC (l.length : Int) (qA l o p) = true := BK (G4 l o p _) fun x hx => by
 obtain ⟨c, rfl, h1, _⟩ := nA.1 hx
 omega
def sr (l : List Rw) (o : Nat) (pts : List Int) (base : List (List Int)) : Nat → List (List Int)
 | 0 => base
 | k + 1 => iB (sr l o pts base k) (qA l o (pts.getD k 0).toNat)
def j4 (S : Sp) (l : List Rw) : Nat → List (List Int)
 | 0 => []
 | o + 1 => sr l o (eg (S.on.getD o 0)) (j4 S l o) (eg (S.on.getD o 0)).length
def QP (S : Sp) (l : List Rw) : List (List Int) := j4 S l S.on.length
def lp (S : Sp) (l : List Rw) : List (List Int) := gT (QP S l)
theorem wJ {l : List Rw} {o : Nat} {pts : List Int} {base : List (List Int)} {x : List Int} : ∀ k, x ∈ sr l o pts base k ↔ x ∈ base ∨ ∃ q, q < k ∧ x = qA l o (pts.getD q 0).toNat
 | 0 => by simp [sr]
 | k + 1 => by
  rw [sr, gm, wJ k]
  constructor
  ·rintro ((h | ⟨q, h1, h2⟩) | h)
   ·exact .inl h
   ·exact .inr ⟨q, by omega, h2⟩
   ·exact .inr ⟨k, by omega, h⟩
  ·rintro (h | ⟨q, h1, h2⟩)
   ·exact .inl (.inl h)
   ·by_cases e : q = k
    ·subst e; exact .inr h2
    ·exact .inl (.inr ⟨q, by omega, h2⟩)
theorem nQ {S : Sp} {l : List Rw} {x : List Int} : ∀ o, x ∈ j4 S l o ↔ ∃ q, q < o ∧ ∃ j, j < (eg (S.on.getD q 0)).length ∧ x = qA l q ((eg (S.on.getD q 0)).getD j 0).toNat
 | 0 => by simp [j4]
 | o + 1 => by
  rw [j4, wJ, nQ o]
  constructor
  ·rintro (⟨q, h1, h2⟩ | ⟨j, h1, h2⟩)
   ·exact ⟨q, by omega, h2⟩
   ·exact ⟨o, by omega, j, h1, h2⟩
  ·rintro ⟨q, h1, h2⟩
   by_cases e : q = o
   ·subst e; exact .inr h2
   ·exact .inl ⟨q, by omega, h2⟩
theorem rq {l : List Rw} {o : Nat} {pts : List Int} {base : List (List Int)} (h : base.Nodup) : ∀ k, (sr l o pts base k).Nodup
 | 0 => h
 | k + 1 => jl (rq h k) _
theorem tP (S : Sp) (l : List Rw) : ∀ o, (j4 S l o).Nodup
 | 0 => List.nodup_nil
 | o + 1 => rq (tP S l o) _
theorem v5 {l : List Rw} {o : Nat} {pts : List Int} {base : List (List Int)} : ∀ k, (sr l o pts base k).length ≤ base.length + k
 | 0 => Nat.le_refl _
 | k + 1 => by
  have := pn (sr l o pts base k) (qA l o (pts.getD k 0).toNat)
  have := v5 (l := l) (o := o) (pts := pts) (base := base) k
  rw [sr]; omega
theorem sR (S : Sp) (l : List Rw) : ∀ o, (j4 S l o).length ≤ 256 * o
 | 0 => Nat.le_refl _
 | o + 1 => by
  have h1 := v5 (l := l) (o := o) (pts := eg (S.on.getD o 0)) (base := j4 S l o) (eg (S.on.getD o 0)).length
  have h2 := sR S l o
  have h3 := kT (S.on.getD o 0)
  rw [j4]; omega
def oW (l : List Rw) (x : List Int) : Prop := ∃ o p, x = qA l o p
theorem Bg {S : Sp} {l : List Rw} {o : Nat} {x : List Int} (h : x ∈ j4 S l o) : oW l x := by
 obtain ⟨q, _, j, _, e⟩ := (nQ o).1 h
 exact ⟨_, _, e⟩
theorem jS {S : Sp} {l : List Rw} (h : l.length ≤ 4000) : dX (l.length : Int) (lp S l) = true := fl.2 ⟨by omega, by omega, fun i hi => by
 obtain ⟨o, p, e⟩ := Bg (ma.1 (dS (d := []) hi))
 rw [show (lp S l).getD i [] = qA l o p from e]
 exact Ka l o p⟩
def pk (row : List Int) : List Int := row.flatMap fun c => [c / 256 % 256, c % 256]
def j8 (row : List Int) : List UInt8 := oy (pk row)
theorem CY (row : List Int) (k : Nat) (hk : k < row.length) : pk (row.take k) ++ [row.getD k 0 / 256 % 256, row.getD k 0 % 256] = pk (row.take (k + 1)) := by
 unfold pk
 rw [List.take_add_one, List.flatMap_append, List.getD_eq_getElem?_getD, List.getElem?_eq_getElem hk]
 simp
theorem Fs (row : List Int) : (pk row).length = 2 * row.length := by
 unfold pk
 induction row with
 | nil => rfl
 | cons a l ih => rw [List.flatMap_cons, List.length_append, ih]; simp; omega
theorem BC {x y : Int} (hx : 0 ≤ x ∧ x < 256) (hy : 0 ≤ y ∧ y < 256) (h : UInt8.ofNat x.toNat = UInt8.ofNat y.toNat) : x = y := by
 have h2 := congrArg UInt8.toNat h
 rw [UInt8.toNat_ofNat', UInt8.toNat_ofNat', Nat.mod_eq_of_lt (by omega), Nat.mod_eq_of_lt (by omega)] at h2
 omega
theorem xH : ∀ (a b : List Int), (∀ x, x ∈ a → 0 ≤ x ∧ x < 65536) → (∀ x, x ∈ b → 0 ≤ x ∧ x < 65536) → j8 a = j8 b → a = b
 | [], [], _, _, _ => rfl
 | [], b :: bs, _, _, h => by simp [j8, pk, oy] at h
 | a :: aq, [], _, _, h => by simp [j8, pk, oy] at h
 | a :: aq, b :: bs, ha, hb, h => by
  have h0 := ha a (List.mem_cons_self ..)
  have h1 := hb b (List.mem_cons_self ..)
  have hh : UInt8.ofNat (a / 256 % 256).toNat = UInt8.ofNat (b / 256 % 256).toNat ∧ UInt8.ofNat (a % 256).toNat = UInt8.ofNat (b % 256).toNat ∧ j8 aq = j8 bs := by
   simpa [j8, pk, oy, List.flatMap_cons] using h
  have e1 := BC ⟨by omega, by omega⟩ ⟨by omega, by omega⟩ hh.1
  have e2 := BC ⟨by omega, by omega⟩ ⟨by omega, by omega⟩ hh.2.1
  rw [xH aq bs (fun x hx => ha x (List.mem_cons_of_mem _ hx)) (fun x hx => hb x (List.mem_cons_of_mem _ hx)) hh.2.2, show a = b by omega]
theorem oW.small {l : List Rw} {x : List Int} (h : oW l x) (hl : l.length ≤ 4000) : ∀ c, c ∈ x → 0 ≤ c ∧ c < 65536 := fun c hc => by
 obtain ⟨o, p, rfl⟩ := h
 obtain ⟨c, rfl, h1, _⟩ := nA.1 hc
 omega
theorem rF {l : List Rw} {ks : List (List Int)} {r : List Int} (hl : l.length ≤ 4000) (hk : ∀ x, x ∈ ks → oW l x) (hr : oW l r) : j8 r ∈ ks.map j8 ↔ r ∈ ks := by
 rw [List.mem_map]
 constructor
 ·rintro ⟨x, hx, e⟩
  rw [← xH x r ((hk x hx).small hl) (hr.small hl) e]; exact hx
 ·exact fun h => ⟨r, h, rfl⟩
theorem IU {l : List Rw} {ks : List (List Int)} {r : List Int} (hl : l.length ≤ 4000) (hk : ∀ x, x ∈ ks → oW l x) (hr : oW l r) : iB (ks.map j8) (j8 r) = (iB ks r).map j8 := by
 unfold iB
 by_cases h : r ∈ ks
 ·rw [if_pos h, if_pos ((rF hl hk hr).2 h)]
 ·rw [if_neg h, if_neg (fun k => h ((rF hl hk hr).1 k)), List.map_append]; rfl
end
section
open Go Go.RowKit
def zj (S : Sp) (l : List Rw) : Int := if dP S = true ∧ ∀ k, k < l.length → dY (l.getD k ⟨⟨0, 0⟩, 0⟩).c.m (l.getD k ⟨⟨0, 0⟩, 0⟩).c.v S.n = true then (if 4000 < l.length then 3 else 0) else 1
theorem PA {a b : List Int} (h : ¬ (a.length : Int) = (b.length : Int)) : Value.bool (decide ((a.length : Int) < (b.length : Int))) = .bool (fN a b) := congrArg Value.bool (by
 rw [P2 (by omega)]
 by_cases k : a.length < b.length
 ·rw [decide_eq_true k, decide_eq_true (by omega)]
 ·rw [decide_eq_false k, decide_eq_false (by omega)])
theorem Pq {a b : List Int} {k : Nat} (hl : a.length = b.length) (hk : k < a.length) (h : ∀ q, q < k → a.getD q 0 = b.getD q 0) (hn : ¬ a.getD k 0 = b.getD k 0) : Value.bool (decide (a.getD k 0 < b.getD k 0)) = .bool (fN a b) := congrArg Value.bool (by
 rw [ve hl, JK a b k hl hk h hn])
theorem Pt {a b : List Int} {k : Nat} (hl : a.length = b.length) (hk : k = a.length) (h : ∀ q, q < k → a.getD q 0 = b.getD q 0) : Value.bool false = .bool (fN a b) := congrArg Value.bool (by
 rw [xt a b hl (hk ▸ h), HM])
def s6 (l : List Rw) (n : Int) (k : Nat) : List Nat := (l.take k).map fun x => qI x.c.m x.c.v n.toNat
theorem Ar {l : List Rw} {n : Int} {k : Nat} (h : k ≤ l.length) : (s6 l n k).length = k := by
 unfold s6
 rw [List.length_map, List.length_take]; omega
theorem F8 {l : List Rw} {n : Int} {k : Nat} (h : k < l.length) : s6 l n k ++ [qI (l.getD k ⟨⟨0, 0⟩, 0⟩).c.m (l.getD k ⟨⟨0, 0⟩, 0⟩).c.v n.toNat] = s6 l n (k + 1) := by
 unfold s6
 rw [List.take_add_one, List.map_append, List.getD_eq_getElem?_getD, List.getElem?_eq_getElem h]; rfl
theorem Jh {l : List Rw} {n : Int} {k : Nat} (h : k < l.length) : (s6 l n l.length).getD k 0 = qI (l.getD k ⟨⟨0, 0⟩, 0⟩).c.m (l.getD k ⟨⟨0, 0⟩, 0⟩).c.v n.toNat := by
 unfold s6
 rw [List.take_length, List.getD_eq_getElem?_getD, List.getElem?_map, List.getD_eq_getElem?_getD, List.getElem?_eq_getElem h]; rfl
theorem Ei {l : List Rw} {n p : Int} {k o : Nat} (h : k < l.length) (hr : dY (l.getD k ⟨⟨0, 0⟩, 0⟩).c.m (l.getD k ⟨⟨0, 0⟩, 0⟩).c.v n = true) (hp : 0 ≤ p ∧ p.toNat < 2 ^ n.toNat) (hb : (l.getD k ⟨⟨0, 0⟩, 0⟩).o.testBit o = true) : wV ((s6 l n l.length).getD k 0) p = FV l k o p.toNat := by
 obtain ⟨h0, h8, hm, hv⟩ := dW.1 hr
 have h256 := fh h8
 rw [Jh h]
 unfold FV pf
 rw [hb, Bool.true_and]
 obtain ⟨q, rfl⟩ := Int.eq_ofNat_of_zero_le hp.1
 rw [Int.toNat_natCast] at hp ⊢
 have hq : q < 256 := by omega
 rw [vD hq, jq (by omega), decide_eq_true hp.2, Bool.true_and, hv]
theorem Ng {l : List Rw} {p : Nat} {k o : Nat} (hb : ¬ (l.getD k ⟨⟨0, 0⟩, 0⟩).o.testBit o = true) : FV l k o p = false := by
 unfold FV
 rw [Bool.eq_false_iff.2 hb]; rfl
theorem Ix {l : List Rw} {n p : Int} {k o : Nat} (h : k < l.length) (hr : dY (l.getD k ⟨⟨0, 0⟩, 0⟩).c.m (l.getD k ⟨⟨0, 0⟩, 0⟩).c.v n = true) (hp : 0 ≤ p ∧ p.toNat < 2 ^ n.toNat) (hs : (((l.getD k ⟨⟨0, 0⟩, 0⟩).o / 2 ^ o &&& 1 : Nat) : Int) = 1) (hb : wV ((s6 l n l.length).getD k 0) p = true) : jm l o p.toNat k ++ [(k : Int)] = jm l o p.toNat (k + 1) :=
 KM ((Ei h hr hp (k7.1 hs)).symm.trans hb)
theorem CG {l : List Rw} {n p : Int} {k o : Nat} (h : k < l.length) (hr : dY (l.getD k ⟨⟨0, 0⟩, 0⟩).c.m (l.getD k ⟨⟨0, 0⟩, 0⟩).c.v n = true) (hp : 0 ≤ p ∧ p.toNat < 2 ^ n.toNat) (hs : (((l.getD k ⟨⟨0, 0⟩, 0⟩).o / 2 ^ o &&& 1 : Nat) : Int) = 1) (hb : wV ((s6 l n l.length).getD k 0) p = false) : jm l o p.toNat k = jm l o p.toNat (k + 1) :=
 EY ((Ei h hr hp (k7.1 hs)).symm.trans hb)
theorem Dy {l : List Rw} {p : Nat} {k o : Nat} (hs : ¬ (((l.getD k ⟨⟨0, 0⟩, 0⟩).o / 2 ^ o &&& 1 : Nat) : Int) = 1) : jm l o p k = jm l o p (k + 1) :=
 EY (Ng (fun h => hs (k7.2 h)))
theorem Lb {l : List Rw} {x : List Int} (h : oW l x) : x.length ≤ l.length := by
 obtain ⟨o, p, rfl⟩ := h
 exact sZ _ _ _ _
theorem II {l : List Rw} {ks : List (List Int)} (h : ∀ x, x ∈ ks → oW l x) (j : Nat) : ((gT ks).getD j []).length ≤ l.length := by
 by_cases hj : j < (gT ks).length
 ·exact Lb (h _ (ma.1 (dS hj)))
 ·rw [List.getD_eq_getElem?_getD, List.getElem?_eq_none (by omega)]; simp
theorem Gb {ks : List (List Int)} {r : List Int} (h : r ∈ ks) : iB ks r = ks := if_pos h
theorem L8 {S : Sp} {l : List Rw} {o k : Nat} {pts : List Int} {x : List Int} (h : x ∈ sr l o pts (j4 S l o) k) : oW l x := by
 rcases (wJ k).1 h with h | ⟨q, _, e⟩
 ·exact Bg h
 ·exact ⟨_, _, e⟩
theorem Ab {α : Type} (L : List α) (i : Nat) : (L.drop i).take (L.length - i) = L.drop i := List.take_of_length_le (by simp)
theorem Mm {S : Sp} {o p : Nat} (hr : dP S = true) (ho : o < S.on.length) (hb : (S.on.getD o 0).testBit p = true) (hp : p < 256) : p < 2 ^ S.n.toNat := by
 obtain ⟨w1, w2⟩ := (d7.1 hr).2.2.2.2.2 o ho
 have := d6.1 w2 p hp (d6.1 w1 p hp hb)
 rw [fP] at this
 simpa using this
theorem G5 {S : Sp} {l : List Rw} {o k : Nat} (ho : o < 4) (hk : k ≤ (eg (S.on.getD o 0)).length) : (sr l o (eg (S.on.getD o 0)) (j4 S l o) k).length ≤ 2000 := by
 have h1 := v5 (l := l) (o := o) (pts := eg (S.on.getD o 0)) (base := j4 S l o) k
 have h2 := sR S l o
 have h3 := kT (S.on.getD o 0)
 omega
theorem Ps {S : Sp} {l : List Rw} (h : ¬ dP S = true) : zj S l = 1 := if_neg fun k => h k.1
theorem Pi {S : Sp} {l : List Rw} {k : Nat} (hk : k < l.length) (h : ¬ dY (l.getD k ⟨⟨0, 0⟩, 0⟩).c.m (l.getD k ⟨⟨0, 0⟩, 0⟩).c.v S.n = true) : zj S l = 1 := if_neg fun q => h (q.2 k hk)
theorem P3 {S : Sp} {l : List Rw} (h : dP S = true) (h2 : ∀ k, k < l.length → dY (l.getD k ⟨⟨0, 0⟩, 0⟩).c.m (l.getD k ⟨⟨0, 0⟩, 0⟩).c.v S.n = true) (h3 : 4000 < l.length) : zj S l = 3 := by
 unfold zj; rw [if_pos ⟨h, h2⟩, if_pos h3]
theorem Mz {S : Sp} {l : List Rw} (h : dP S = true) (h2 : ∀ k, k < l.length → dY (l.getD k ⟨⟨0, 0⟩, 0⟩).c.m (l.getD k ⟨⟨0, 0⟩, 0⟩).c.v S.n = true) (h3 : ¬ 4000 < l.length) : zj S l = 0 := by
 unfold zj; rw [if_pos ⟨h, h2⟩, if_neg h3]
def JT (l : List Rw) (bs : List Bool) : Nat → List Rw
 | 0 => []
 | k + 1 => if bs.getD k false = true then JT l bs k ++ [l.getD k ⟨⟨0, 0⟩, 0⟩] else JT l bs k
def Kl (bs : List Bool) : Nat → List Int
 | 0 => []
 | k + 1 => if bs.getD k false = true then Kl bs k ++ [(k : Int)] else Kl bs k
theorem rS {l : List Rw} {bs : List Bool} {x : Rw} : ∀ k, x ∈ JT l bs k ↔ ∃ c, c < k ∧ bs.getD c false = true ∧ x = l.getD c ⟨⟨0, 0⟩, 0⟩
 | 0 => by simp [JT]
 | k + 1 => by
  rw [JT]
  by_cases h : bs.getD k false = true
  ·rw [if_pos h, List.mem_append, rS k, List.mem_singleton]
   constructor
   ·rintro (⟨c, h1, h2⟩ | rfl)
    ·exact ⟨c, by omega, h2⟩
    ·exact ⟨k, by omega, h, rfl⟩
   ·rintro ⟨c, h1, h2, h3⟩
    by_cases e : c = k
    ·subst e; exact .inr h3
    ·exact .inl ⟨c, by omega, h2, h3⟩
  ·rw [if_neg h, rS k]
   constructor
   ·rintro ⟨c, h1, h2⟩; exact ⟨c, by omega, h2⟩
   ·rintro ⟨c, h1, h2, h3⟩
    have e : c ≠ k := fun e => h (e ▸ h2)
    exact ⟨c, by omega, h2, h3⟩
theorem ue {bs : List Bool} {x : Int} : ∀ k, x ∈ Kl bs k ↔ ∃ c : Nat, c < k ∧ bs.getD c false = true ∧ x = (c : Int)
 | 0 => by simp [Kl]
 | k + 1 => by
  rw [Kl]
  by_cases h : bs.getD k false = true
  ·rw [if_pos h, List.mem_append, ue k, List.mem_singleton]
   constructor
   ·rintro (⟨c, h1, h2⟩ | rfl)
    ·exact ⟨c, by omega, h2⟩
    ·exact ⟨k, by omega, h, rfl⟩
   ·rintro ⟨c, h1, h2, h3⟩
    by_cases e : c = k
    ·subst e; exact .inr h3
    ·exact .inl ⟨c, by omega, h2, h3⟩
  ·rw [if_neg h, ue k]
   constructor
   ·rintro ⟨c, h1, h2⟩; exact ⟨c, by omega, h2⟩
   ·rintro ⟨c, h1, h2, h3⟩
    have e : c ≠ k := fun e => h (e ▸ h2)
    exact ⟨c, by omega, h2, h3⟩
theorem vN {L : List (List Int)} {cols : List Int} : oF L cols = true ↔ ∀ r, r ∈ L → ∃ c, c ∈ r ∧ c ∈ cols := by
 rw [A9]
 constructor
 ·intro h r hr
  obtain ⟨k, hk, rfl⟩ := fo (d := []) hr
  exact h k hk
 ·exact fun h i hi => h _ (dS hi)
theorem CQ {l : List Rw} {bs : List Bool} {k p o : Nat} : yF (JT l bs k) p o = true ↔ ∃ c, c < k ∧ bs.getD c false = true ∧ FV l c o p = true := by
 unfold yF
 rw [List.any_eq_true]
 constructor
 ·rintro ⟨x, hx, h⟩
  obtain ⟨c, h1, h2, rfl⟩ := (rS k).1 hx
  exact ⟨c, h1, h2, h⟩
 ·rintro ⟨c, h1, h2, h3⟩
  exact ⟨_, (rS k).2 ⟨c, h1, h2, rfl⟩, h3⟩
theorem My {S : Sp} {l : List Rw} {bs : List Bool} {k : Nat} (hr : dP S = true) (hw : ∀ q, q < l.length → pM S (l.getD q ⟨⟨0, 0⟩, 0⟩) = true) (hl : l.length ≤ 4000) (hk : k ≤ l.length) :
  (dX (l.length : Int) (lp S l) && oF (lp S l) (Kl bs k)) = ju S (JT l bs k) := by
 rw [jS hl, Bool.true_and]
 obtain ⟨h0, h8, h1, h4, h5, hin⟩ := d7.1 hr
 have hp := fh h8
 have hm : oh S (JT l bs k) = true := by
  unfold oh
  rw [List.all_eq_true]
  intro x hx
  obtain ⟨c, h1, _, rfl⟩ := (rS k).1 hx
  have hi := hw c (by omega)
  exact jd.2 ⟨gn hi, (gy.1 hi).2.1, by rw [h5]; exact (oq hi).1⟩
 have hon : ∀ o, o < S.on.length → ∀ p, (zQ S o).testBit p = true → p < 256 → p < 2 ^ S.n.toNat := fun o ho p hb hp2 => by
  obtain ⟨w1, w2⟩ := hin o ho
  have := d6.1 w2 p hp2 (d6.1 w1 p hp2 hb)
  rw [fP] at this
  simpa using this
 rw [Bool.eq_iff_iff, vN, gX]
 constructor
 ·intro h
  refine ⟨hr, hm, fun o ho => (mq hr hm ho).2 fun p hpn => ⟨fun hb => ?_, fun hc => ?_⟩⟩
  ·have hmem : qA l o p ∈ lp S l := ma.2 ((nQ _).2 (by
    obtain ⟨j, hj, hjp⟩ := fo (d := (0 : Int)) (iZ.2 ⟨p, by omega, hb, rfl⟩ : (p : Int) ∈ eg (zQ S o))
    refine ⟨o, ho, j, hj, ?_⟩
    unfold zQ at hjp
    rw [hjp, Int.toNat_natCast]))
   obtain ⟨c, hc1, hc2⟩ := h _ hmem
   obtain ⟨c, rfl, g1, g2⟩ := nA.1 hc1
   obtain ⟨c', g3, g4, g5⟩ := (ue k).1 hc2
   obtain rfl : c = c' := by omega
   exact CQ.2 ⟨c, g3, g4, g2⟩
  ·obtain ⟨c, g1, g2, g3⟩ := CQ.1 hc
   have hi := hw c (by omega)
   unfold FV at g3
   rw [Bool.and_eq_true] at g3
   obtain ⟨k1, k2⟩ := (gy.1 hi).2.2 o g3.1
   have hv := (dW.1 (gn hi)).2.2.2
   refine (f6.1 k2).2 p hpn ?_
   have := of_decide_eq_true g3.2
   rw [hv] at this
   exact this
 ·rintro ⟨_, _, h⟩ r hr2
  obtain ⟨o, ho, j, hj, rfl⟩ := (nQ _).1 (ma.1 hr2)
  obtain ⟨p, hp2, hb, e⟩ := kO hj
  rw [e, Int.toNat_natCast]
  have hpn := hon o ho p hb hp2
  obtain ⟨c, g1, g2, g3⟩ := CQ.1 (((mq hr hm ho).1 (h o ho) p hpn).1 hb)
  exact ⟨(c : Int), nA.2 ⟨c, rfl, by omega, g3⟩, (ue k).2 ⟨c, g1, g2, rfl⟩⟩
def N6 (n : Nat) : List Int := (List.range n).map fun k : Nat => (k : Int)
theorem J2 {k : Nat} {x : Int} : x ∈ N6 k ↔ 0 ≤ x ∧ x < k := by
 unfold N6
 rw [List.mem_map]
 constructor
 ·rintro ⟨c, h, rfl⟩
  have := List.mem_range.1 h
  omega
 ·intro h
  exact ⟨x.toNat, List.mem_range.2 (by omega), by omega⟩
def i5 (L : List (List Int)) (k : Nat) : Bool := (List.range k).all fun i => decide (0 < (L.getD i []).length)
theorem HU {L : List (List Int)} {k : Nat} : i5 L k = true ↔ ∀ i, i < k → 0 < (L.getD i []).length := by
 unfold i5
 rw [List.all_eq_true]
 exact ⟨fun h i hi => by simpa using h i (List.mem_range.2 hi), fun h i hi => by simpa using h i (List.mem_range.1 hi)⟩
end
end Go.Proofs.YteimkklmmanncaaGreat
