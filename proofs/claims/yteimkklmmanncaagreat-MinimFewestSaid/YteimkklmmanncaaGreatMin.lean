/- The walks of package isop. The walks of isop.Cover, isop.Grown, and of the document's cover. What the statements about covers need: points of cubes but for one, what grown cubes are. No program in it. Plain words for plain rows: the grown cubes of each output, grown once more, each once. No program  -/
import Derived.Test.YteimkklmmanncaaGreatWThin
namespace Go.Proofs.YteimkklmmanncaaGreat
set_option linter.unusedVariables false
set_option linter.unusedSimpArgs false
section
open Go Go.RowKit
theorem Ol76_0 {p : Prop} (h : p := by first | omega | (simp only [cV, cW, cX, da]; omega)) : p := h
theorem CY : fK Tryz.prog 157 0 = some 0 := by kernel_rfl
theorem pZ : lk Tryz.prog 157 = some 5 := by kernel_rfl
theorem uI : dD Tryz.prog 113 = true := by kernel_rfl
theorem FT : dD Tryz.prog 129 = true := by kernel_rfl
theorem rM : fC Tryz.prog 66 = true := by kernel_rfl
theorem Ew : fK Tryz.prog 157 1 = some 1 := by kernel_rfl
theorem Gh : dD Tryz.prog 127 = true := by kernel_rfl
theorem Pc : eQ Tryz.prog 66 = some (.slice none 0 0) := by kernel_rfl
theorem EZ : dD Tryz.prog 128 = true := by kernel_rfl
theorem ul (s : Nat) (i : Int) (one : Bool) (w : World) :
    Fn Tryz.prog 127 #[eP s, .int .i64 i, .bool one] w fun v w' => v = eP (if 0 ≤ i ∧ i < 8 then dq s i.toNat one else 0) := by
 refine dr (n := 31) Tryz.func127 rfl rfl (Nat.le_of_ble_eq_true rfl) ?_
 have hB : Below w.heap.size w w := Below.refl _ _
 refine Zr <| Zy (dW (c := #[_, _, _, _]) rfl rfl fun P W3 D Q a => ?_)
 have al := ZO D hB
 clear D
 replace hB := Ze hB Q
 refine Zy (dw eR rfl fun E W6 x F b => ?_)
 have R := ZO x hB
 have S := Zn x a.lt
 clear x
 replace hB := Ze hB F
 replace a := F.at a
 replace b : At W6 E #[wv 0 0, wv 0 1, wv 0 2, wv 0 3] 49 := b
 refine cT <| Zr <| Zv (db rfl df rfl a) <| Zi rfl <| Zb rfl <| ZC (vs := [.agg #[_, _, _, _], .int .i64 _, .bool _]) AG (vG _ _ _ _) rfl fun ao ap y T => ?_
 replace hB := Ze hB y
 replace a := y.at a
 replace b := y.at b
 obtain rfl := T
 generalize hH : (if 0 ≤ i ∧ i < 8 then pn s i.toNat one else 0) = H
 refine Zy (dw eR rfl fun G U r z d => ?_)
 have V := ZO r hB
 have X := Zn r a.lt
 have I := Zn r b.lt
 clear r
 replace hB := Ze hB z
 replace a := z.at a
 replace b := z.at b
 replace d : At U G #[wv 0 0, wv 0 1, wv 0 2, wv 0 3] 49 := d
 refine Zy (dg rfl rfl df rfl d rfl rfl fun aq A Y => ?_)
 replace hB := Zg hB A V
 replace a := At.grownNe a X A
 replace b := At.grownNe b I A
 replace d := Y
 refine cT <| Zr <| Zv (db rfl df rfl d) <| Zy (dw eR rfl fun J Z j t e => ?_)
 have K := ZO j hB
 have L := Zn j a.lt
 have B := Zn j b.lt
 have M := Zn j d.lt
 clear j
 replace hB := Ze hB t
 replace a := t.at a
 replace b := t.at b
 replace d := t.at d
 replace e : At Z J #[wv 0 0, wv 0 1, wv 0 2, wv 0 3] 49 := e
 refine Zy (dg rfl rfl df rfl e rfl rfl fun ar u aa => ?_)
 replace hB := Zg hB u K
 replace a := At.grownNe a L u
 replace b := At.grownNe b B u
 replace d := At.grownNe d M u
 replace e := aa
 refine cT <| cZ fun au ab => Zr <| Zv (db rfl df rfl d) <| ZC (vs := [.agg #[_, _, _, _]]) xz (mT _ _) rfl fun C av l f => ?_
 have ac := (Below.size hB)
 replace hB := Ze hB l
 replace a := l.at a
 replace b := l.at b
 replace d := l.at d
 replace e := l.at e
 replace f := dh.mono f ac
 refine Zv (dB (v := C) rfl f.sl dy) <| Zw (.int .i64 0) rfl <| cT <| c7 ?_
 refine dz (σ := (Nat)) [10, 19, 20, 21, 22, 23, 24, 25, 26, 27, 28, 29] (fun k => [(19, .int .i64 (k : Int))]) (fun k W => (Below w.heap.size w W) ∧ (At W P _ 49) ∧ (At W E _ 49) ∧ (At W G _ 49) ∧ (dh ee 1 3 W w.heap.size C _) ∧ (At W J #[wv (kb (eo H) H i.toNat k) 0, wv (kb (eo H) H i.toNat k) 1, wv (kb (eo H) H i.toNat k) 2, wv (kb (eo H) H i.toNat k) 3] 49) ∧ (k ≤ (eo H).length) ∧ (True)) (fun k => (eo H).length - k) (0) ⟨rfl, trivial⟩ ⟨hB, a, b, d, f, e, (Nat.zero_le _), trivial⟩ ?_
 clear hB a b d e f
 rintro k aw ax ⟨hB, a, b, d, f, e, hk, _⟩ ay ad
 have hll := lc H
 refine Zr <| Zv (dN rfl rfl) <| cT <| cZ fun az ae => ZQ rfl (fun N => ?_) fun N => ?_
 refine c9 <| ae _ _ <| cZ fun aA af => c7 ?_
 have hi8 : 0 ≤ i ∧ i < 8 := Mg hH N
 obtain ⟨p, aB, aC, O⟩ := lj (s := H) (i := k) (by omega)
 have h7 := Ap (show i.toNat < 8 by omega)
 refine Zr <| Zv (dI (v := C) rfl f.sl rfl dy Om Ol76_0) <| Zv (dk (v := .int .i64 _) rfl dC (dO.cell f.sl eI 0 Om Ol76_0 0 rfl)) <| Zi rfl <| cT ?_
 have ag : (eo H).getD (k : Int).toNat 0 = (p : Int) := O
 rw [ag]
 refine gF d9 iv (fun ah h => ?_)
 replace hB := Ze hB h
 replace a := h.at a
 replace b := h.at b
 replace d := h.at d
 replace f := h.ow f
 replace e := h.at e
 have hS := d9.refl ah
 refine Tk 0 rfl (fun _ hq => db rfl df rfl (hq.at e)) hS <| Ti 1 rfl rfl hS <| Ti 2 rfl rfl hS <| Tk 3 rfl (fun _ _ => jP (m := 1) rfl rfl Om (by simp only [IntKind.bits]; omega) (by simp only [d7]; omega)) hS <| Tk 4 rfl (fun _ _ => JZ (n := _) rfl rfl rfl (by simp only [d7]; omega) (by simp only [d7]; omega)) hS <| To 5 rfl (TC (vs := [.agg #[_, _, _, _], .int .i64 _]) vO (m8 _ _ _) rfl fun aD aE g ai => ⟨.inl (hS.trans g), ?_⟩)
 replace hB := Ze hB g
 replace a := g.at a
 replace b := g.at b
 replace d := g.at d
 replace f := g.ow f
 replace e := g.at e
 replace hS := hS.trans g
 obtain rfl := ai
 refine To 6 rfl (dg rfl rfl df rfl e rfl rfl fun aF o aj => ⟨.inr (by kernel_rfl), ?_⟩)
 replace hB := Zg hB o K
 replace a := At.grownNe a L o
 replace b := At.grownNe b B o
 replace d := At.grownNe d M o
 replace f := dh.grownAt f e o Dd
 replace e := aj
 refine Td <| af _ _ <| cY <| Zv (dp rfl rfl Om Om) <| Zi rfl <| cT ?_
 exact ad _ _ (k + 1) Za ⟨rfl, trivial⟩ ⟨hB, a, b, d, f, (by rw [uo Om, O, Int.toNat_natCast, ← Nat.one_mul (2 ^ i.toNat)]; exact e), Om, trivial⟩ Zo
 refine dt <| ab _ _ <| Zr <| Zv (db rfl df rfl e) <| Zy (dg rfl rfl df rfl b rfl rfl fun aG q ak => ?_)
 replace hB := Zg hB q R
 replace a := At.grownNe a S q
 replace d := At.grownNe d (Ne.symm I) q
 replace f := dh.grownAt f b q Dd
 replace e := At.grownNe e (Ne.symm B) q
 replace b := ak
 refine cT <| Zt <| jO rfl df b rfl ⟨hB, ?_⟩
 obtain rfl : k = (eo H).length := by omega
 rw [IH hH]
theorem l5 (n : Nat) (x : Value) (l : List Cb) (w : World) (h8 : n ≤ 8) (hl : dO ib 2 w x l) (hr : ∀ c, c ∈ l → c.m < 2 ^ n ∧ c.v &&& c.m = c.v) (hlb : l.length ≤ 100000) :
    Fn Tryz.prog 129 #[.agg #[.int .i64 (n : Int), wv (ft n) 0, wv (ft n) 1, wv (ft n) 2, wv (ft n) 3], x] w fun v w' => v = eP (kW l n l.length) := by
 refine dr (n := 28) Tryz.func129 rfl rfl (Nat.le_of_ble_eq_true rfl) ?_
 have hB : Below w.heap.size w w := Below.refl _ _
 refine Zr <| Zy (dW (c := #[_, _, _, _, _]) rfl rfl fun H W3 y I d => ?_)
 have ac := ZO y hB
 clear y
 replace hB := Ze hB I
 refine Zy (dw eR rfl fun z W6 A B a => ?_)
 have J := ZO A hB
 clear A
 replace hB := Ze hB B
 replace d := B.at d
 replace a : At W6 z #[wv 0 0, wv 0 1, wv 0 2, wv 0 3] 49 := a
 refine cT <| Zr <| Zy (dw eR rfl fun C K s t b => ?_)
 have L := ZO s hB
 have D := Zn s a.lt
 clear s
 replace hB := Ze hB t
 replace d := t.at d
 replace a := t.at a
 replace b : At K C #[wv 0 0, wv 0 1, wv 0 2, wv 0 3] 49 := b
 refine cT <| cZ fun ad M => Zr <| Zw x rfl <| Zv (dB (v := x) rfl (Below.slT hB hl) fi) <| Zw (.int .i64 0) rfl <| cT <| c7 ?_
 refine dz (σ := (Nat)) [7, 8, 9, 12, 13, 14, 15, 16, 17, 18, 19, 20, 21, 22, 23, 24, 25, 26] (fun k => [(12, .int .i64 (k : Int))]) (fun k W => (Below w.heap.size w W) ∧ (At W H _ 157) ∧ (At W z _ 49) ∧ (At W C #[wv (kW l n k) 0, wv (kW l n k) 1, wv (kW l n k) 2, wv (kW l n k) 3] 49) ∧ (k ≤ l.length) ∧ (True)) (fun k => l.length - k) (0) ⟨rfl, trivial⟩ ⟨hB, d, a, b, (Nat.zero_le _), trivial⟩ ?_
 clear hB d a b
 rintro k ae af ⟨hB, d, a, b, hk, _⟩ ag N
 refine Zr <| Zv (dN rfl rfl) <| cT <| cZ fun ah O => ZQ rfl (fun P => ?_) fun P => ?_
 refine c9 <| O _ _ <| cZ fun ai Q => c7 ?_
 obtain ⟨hr1, hr2⟩ := hr (l.getD k ⟨0, 0⟩) (dU (by omega))
 have hle256 := f6 h8
 have hr3 : (l.getD k ⟨0, 0⟩).v ≤ (l.getD k ⟨0, 0⟩).m := by rw [← hr2]; exact Nat.and_le_right
 have hrr : dZ (l.getD k ⟨0, 0⟩).m (l.getD k ⟨0, 0⟩).v (n : Int) = true := dV.2 ⟨by omega, by omega, hr1, hr2⟩
 refine Zr <| Zv (dI (v := x) rfl (Below.slT hB hl) rfl fi Om Ol76_0) <| Zv (g7 rfl dP (dO.cell (Below.slT hB hl) gw ⟨0, 0⟩ Om Ol76_0 0 rfl) (dO.cell (Below.slT hB hl) gw ⟨0, 0⟩ Om Ol76_0 1 rfl)) <| Zy (dw jj rfl fun aj ak E p e => ?_)
 have R := ZO E hB
 clear E
 replace hB := Ze hB p
 replace d := p.at d
 replace a := p.at a
 replace b := p.at b
 refine Zy (dg rfl rfl dP rfl e rfl rfl fun al q S => ?_)
 replace hB := Zg hB q R
 replace d := At.grownAt d e q Dd
 replace a := At.grownAt a e q Dd
 replace b := At.grownAt b e q Dd
 replace e := S
 refine cT <| Zr <| Zv (db rfl dP rfl e) <| Zf rfl CY <| Zl rfl dC d rfl <| ZC (vs := [.agg #[_, _], .int .i64 _]) Ai (lu _ _ (n : Int) _ (by show (l.getD k ⟨0, 0⟩).m < 256; omega) (by show (l.getD k ⟨0, 0⟩).v < 256; omega)) rfl fun ao ap h F => ?_
 replace hB := Ze hB h
 replace d := h.at d
 replace a := h.at a
 replace b := h.at b
 replace e := h.at e
 rw [if_pos (show dZ (l.getD ((k : Nat) : Int).toNat ⟨0, 0⟩).m (l.getD ((k : Nat) : Int).toNat ⟨0, 0⟩).v (n : Int) = true from hrr)] at F
 obtain rfl := F
 refine Zw (.tuple #[.agg #[_, _, _, _], .int .i64 _]) rfl <| Zv (dK rfl) <| Zv (dM rfl) <| Zy (dw eR rfl fun T U r i f => ?_)
 have V := ZO r hB
 have X := Zn r a.lt
 have G := Zn r b.lt
 clear r
 replace hB := Ze hB i
 replace d := i.at d
 replace a := i.at a
 replace b := i.at b
 replace e := i.at e
 replace f : At U T #[wv 0 0, wv 0 1, wv 0 2, wv 0 3] 49 := f
 refine Zy (dg rfl rfl df rfl f rfl rfl fun aq j Y => ?_)
 replace hB := Zg hB j V
 replace d := At.grownAt d f j Dd
 replace a := At.grownNe a X j
 replace b := At.grownNe b G j
 replace e := At.grownAt e f j Dd
 replace f := Y
 refine Zi rfl <| cT <| cY <| Zv (db rfl df rfl b) <| Zv (db rfl df rfl f) <| ZC (vs := [.agg #[_, _, _, _], .agg #[_, _, _, _]]) r8 (sy _ _ _) rfl fun ar au g Z => ?_
 replace hB := Ze hB g
 replace d := g.at d
 replace a := g.at a
 replace b := g.at b
 replace e := g.at e
 replace f := g.at f
 obtain rfl := Z
 refine Zy (dg rfl rfl df rfl b rfl rfl fun av o aa => ?_)
 replace hB := Zg hB o L
 replace d := At.grownAt d b o Dd
 replace a := At.grownNe a D o
 replace e := At.grownAt e b o Dd
 replace f := At.grownNe f (Ne.symm G) o
 replace b := aa
 refine cT <| Q _ _ <| cY <| Zv (dp rfl rfl Om Om) <| Zi rfl <| cT ?_
 exact N _ _ (k + 1) Za ⟨rfl, trivial⟩ ⟨hB, d, a, (by exact b), Om, trivial⟩ Zo
 refine dt <| M _ _ <| Zr <| Zv (db rfl df rfl b) <| Zy (dg rfl rfl df rfl a rfl rfl fun aw u ab => ?_)
 replace hB := Zg hB u J
 replace d := At.grownAt d a u Dd
 replace b := At.grownNe b (Ne.symm D) u
 replace a := ab
 refine cT <| Zt <| jO rfl df a rfl ⟨hB, ?_⟩
 obtain rfl : k = l.length := by omega
 rfl
theorem Sd (n f i on may N bm bons bmays bi brest bout rest : Nat) (v0 : Value) (out : List Cb) (w : World) (hN0 : N ≤ w.heap.size) (hih : ∀ (on may i : Nat) (w : World), n ≤ 8 → nc n on may i → n + 1 - i ≤ f → f ≤ 9 → Fn Tryz.prog 113 #[.agg #[.int .i64 (n : Int), wv (ft n) 0, wv (ft n) 1, wv (ft n) 2, wv (ft n) 3], eP on, eP may, .int .i64 (i : Int)] w fun v w' => dh ib 2 40 w' w.heap.size v (eK n f on may i)) (h8 : n ≤ 8) (hg : nc n on may i) (hi : i < n) (hf : n + 1 - (i + 1) ≤ f) (hf9 : f ≤ 8) (hm : At w bm #[.int .i64 (n : Int), wv (ft n) 0, wv (ft n) 1, wv (ft n) 2, wv (ft n) 3] 157) (hons : At w bons (m4 (dq on i false) (dq on i true)) 164) (hmays : At w bmays (m4 (dq may i false) (dq may i true)) 164) (hbi : At w bi #[.int .i64 (i : Int)] 3) (hrest : At w brest #[wv rest 0, wv rest 1, wv rest 2, wv rest 3] 49) (hout : At w bout #[v0] 66) (hown : dh ib 2 40 w N v0 out) (hlen : out.length ≤ 20000) (lor : N ≤ brest) (loo : N ≤ bout) :
    rg Tryz.prog 128 #[.int .i64 0, .pointer (some ⟨bm, 0, none⟩), .pointer (some ⟨bons, 0, none⟩), .pointer (some ⟨bmays, 0, none⟩), .pointer (some ⟨bi, 0, none⟩), .pointer (some ⟨brest, 0, none⟩), .pointer (some ⟨bout, 0, none⟩)] w fun v w' => Below N w w' ∧ At w' bm #[.int .i64 (n : Int), wv (ft n) 0, wv (ft n) 1, wv (ft n) 2, wv (ft n) 3] 157 ∧ At w' bons (m4 (dq on i false) (dq on i true)) 164 ∧ At w' bmays (m4 (dq may i false) (dq may i true)) 164 ∧ At w' bi #[.int .i64 (i : Int)] 3 ∧ At w' brest #[wv (rest ||| andNot (dq on i false) (kW (eK n f (andNot (dq on i false) (dq may i true)) (dq may i false) (i + 1)) n (eK n f (andNot (dq on i false) (dq may i true)) (dq may i false) (i + 1)).length)) 0, wv (rest ||| andNot (dq on i false) (kW (eK n f (andNot (dq on i false) (dq may i true)) (dq may i false) (i + 1)) n (eK n f (andNot (dq on i false) (dq may i true)) (dq may i false) (i + 1)).length)) 1, wv (rest ||| andNot (dq on i false) (kW (eK n f (andNot (dq on i false) (dq may i true)) (dq may i false) (i + 1)) n (eK n f (andNot (dq on i false) (dq may i true)) (dq may i false) (i + 1)).length)) 2, wv (rest ||| andNot (dq on i false) (kW (eK n f (andNot (dq on i false) (dq may i true)) (dq may i false) (i + 1)) n (eK n f (andNot (dq on i false) (dq may i true)) (dq may i false) (i + 1)).length)) 3] 49 ∧ ∃ v1, At w' bout #[v1] 66 ∧ dh ib 2 40 w' N v1 (out ++ (eK n f (andNot (dq on i false) (dq may i true)) (dq may i false) (i + 1)).map (ir i 0)) := by
 refine fc (n := 60) Tryz.func128 rfl rfl (Nat.le_of_ble_eq_true rfl) ?_
 have hB : Below N w w := Below.refl _ _
 have hi8 : i < 8 := by omega
 refine Zd d9 fun W3 E => ?_
 replace hm := E.at hm
 replace hons := E.at hons
 replace hmays := E.at hmays
 replace hbi := E.at hbi
 replace hrest := E.at hrest
 replace hout := E.at hout
 replace hown := E.ow hown
 replace hB := dH hB E hN0
 have hS := d9.refl W3
 refine Tk 0 rfl (fun _ hq => db rfl pZ rfl (hq.at hm)) hS <| Tw 1 (.int .i64 0) rfl rfl hS <| Tk 2 rfl (fun _ _ => fj rfl rfl gU Om Om) hS <| Tk 3 rfl (fun _ hq => fo rfl df (At.cell (hq.at hons) rfl) (At.cell (hq.at hons) rfl) (At.cell (hq.at hons) rfl) (At.cell (hq.at hons) rfl)) hS <| Tw 4 (.int .i64 0) rfl rfl hS <| Tk 5 rfl (fun _ _ => kD rfl rfl Om Om) hS <| Tk 6 rfl (fun _ _ => fj rfl rfl gU Om Om) hS <| Tk 7 rfl (fun _ hq => fo rfl df (At.cell (hq.at hmays) rfl) (At.cell (hq.at hmays) rfl) (At.cell (hq.at hmays) rfl) (At.cell (hq.at hmays) rfl)) hS <| Tw 9 (.int .i64 0) rfl rfl hS <| Tk 10 rfl (fun _ _ => fj rfl rfl gU Om Om) hS <| Tk 11 rfl (fun _ hq => fo rfl df (At.cell (hq.at hmays) rfl) (At.cell (hq.at hmays) rfl) (At.cell (hq.at hmays) rfl) (At.cell (hq.at hmays) rfl)) hS <| Tk 12 rfl (fun _ hq => dk (v := .int .i64 _) rfl dC (At.cell (hq.at hbi) rfl)) hS <| Tk 13 rfl (fun _ _ => dp rfl rfl Om Om) hS <| To 8 rfl (TC (vs := [.agg #[_, _, _, _], .agg #[_, _, _, _]]) xe (mD _ _ _) rfl fun aq W5 l S => ⟨.inl (hS.trans l), ?_⟩)
 replace hm := l.at hm
 replace hons := l.at hons
 replace hmays := l.at hmays
 replace hbi := l.at hbi
 replace hrest := l.at hrest
 replace hout := l.at hout
 replace hown := l.ow hown
 replace hB := dH hB l hN0
 replace hS := hS.trans l
 obtain rfl := S
 refine To 14 rfl (TC (vs := [.agg #[_, _, _, _, _], .agg #[_, _, _, _], .agg #[_, _, _, _], .int .i64 _]) uI (hih _ _ (i + 1) _ h8 (hg.side h8 hi false) hf (Nat.le_trans hf9 Dd)) rfl fun F W9 o a => ⟨.inl (hS.trans o), ?_⟩)
 have T := dh.lt2 hown
 have U := (Nat.le_trans hN0 (Below.size hB))
 replace hm := o.at hm
 replace hons := o.at hons
 replace hmays := o.at hmays
 replace hbi := o.at hbi
 replace hrest := o.at hrest
 replace hout := o.at hout
 replace hown := o.ow hown
 replace hB := dH hB o hN0
 replace hS := hS.trans o
 have Q := eW.new T a
 replace a := dh.mono a U
 have hcm : jl n (dq may i false) (i + 1) (eK n f (andNot (dq on i false) (dq may i true)) (dq may i false) (i + 1)) := (kA h8 f _ _ _ (hg.side h8 hi false) hf).1
 have hcl := i6 (n := n) f (andNot (dq on i false) (dq may i true)) (dq may i false) (i + 1)
 have h3f : 3 ^ f ≤ 3 ^ 8 := Nat.pow_le_pow_right (by decide) hf9
 try simp only [Bool.not_false, Bool.not_true] at a
 generalize hL : eK n f (andNot (dq on i false) (dq may i true)) (dq may i false) (i + 1) = L at *
 refine Tw 15 F rfl rfl hS <| Td <| Zd d9 fun V t => ?_
 replace hm := t.at hm
 replace hons := t.at hons
 replace hmays := t.at hmays
 replace hbi := t.at hbi
 replace hrest := t.at hrest
 replace hout := t.at hout
 replace hown := t.ow hown
 replace hB := dH hB t hN0
 replace a := t.ow a
 have hS := d9.refl V
 refine Tk 0 rfl (fun _ hq => db rfl df rfl (hq.at hrest)) hS <| Tw 1 (.int .i64 0) rfl rfl hS <| Tk 2 rfl (fun _ _ => fj rfl rfl gU Om Om) hS <| Tk 3 rfl (fun _ hq => fo rfl df (At.cell (hq.at hons) rfl) (At.cell (hq.at hons) rfl) (At.cell (hq.at hons) rfl) (At.cell (hq.at hons) rfl)) hS <| Tk 4 rfl (fun _ hq => db rfl pZ rfl (hq.at hm)) hS <| Tw 5 F rfl rfl hS <| To 6 rfl (TC (vs := [.agg #[_, _, _, _, _], F]) FT (l5 n _ L _ h8 a.sl (fun c hc => ⟨(hcm c hc).1, (hcm c hc).2.1⟩) Om) rfl fun ar au e X => ⟨.inl (hS.trans e), ?_⟩)
 replace hm := e.at hm
 replace hons := e.at hons
 replace hmays := e.at hmays
 replace hbi := e.at hbi
 replace hrest := e.at hrest
 replace hout := e.at hout
 replace hown := e.ow hown
 replace hB := dH hB e hN0
 replace a := e.ow a
 replace hS := hS.trans e
 obtain rfl := X
 refine To 7 rfl (TC (vs := [.agg #[_, _, _, _], .agg #[_, _, _, _]]) xe (mD _ _ _) rfl fun av aw g Y => ⟨.inl (hS.trans g), ?_⟩)
 replace hm := g.at hm
 replace hons := g.at hons
 replace hmays := g.at hmays
 replace hbi := g.at hbi
 replace hrest := g.at hrest
 replace hout := g.at hout
 replace hown := g.ow hown
 replace hB := dH hB g hN0
 replace a := g.ow a
 replace hS := hS.trans g
 obtain rfl := Y
 refine To 8 rfl (TC (vs := [.agg #[_, _, _, _], .agg #[_, _, _, _]]) r8 (sy _ _ _) rfl fun ax ay h Z => ⟨.inl (hS.trans h), ?_⟩)
 replace hm := h.at hm
 replace hons := h.at hons
 replace hmays := h.at hmays
 replace hbi := h.at hbi
 replace hrest := h.at hrest
 replace hout := h.at hout
 replace hown := h.ow hown
 replace hB := dH hB h hN0
 replace a := h.ow a
 replace hS := hS.trans h
 obtain rfl := Z
 refine To 9 rfl (dg rfl rfl df rfl hrest rfl rfl fun az y aa => ⟨.inr (by kernel_rfl), ?_⟩)
 replace hm := At.grownAt hm hrest y Dd
 replace hons := At.grownAt hons hrest y Dd
 replace hmays := At.grownAt hmays hrest y Dd
 replace hbi := At.grownAt hbi hrest y Dd
 replace hout := At.grownAt hout hrest y Dd
 replace hown := dh.grownAt hown hrest y Dd
 replace hB := du hB y hN0 (fun j hj => by cases hj; exact lor)
 replace a := dh.grownAt a hrest y Dd
 clear y hrest
 replace hrest := aa
 refine Td <| Zr <| Zw F rfl <| Zv (dB (v := F) rfl a.sl fi) <| Zw (.int .i64 0) rfl <| cT <| c7 ?_
 refine dz (σ := (Nat) × (Value)) [10, 37, 38, 39, 40, 41, 42, 43, 44, 45, 46, 47, 48, 49, 50, 51, 52, 53, 54, 55, 56, 57, 58, 59] (fun (k, v2) => [(37, .int .i64 (k : Int))]) (fun sg W => match sg with | (k, v2) => (At W bm _ 157) ∧ (At W bons _ 164) ∧ (At W bmays _ 164) ∧ (At W bi _ 3) ∧ (At W brest _ 49) ∧ (Below N w W) ∧ (dh ib 2 40 W N F _) ∧ (At W bout #[v2] 66) ∧ (dh ib 2 40 W N v2 (out ++ (L.take k).map (ir i 0))) ∧ (eW v2 F) ∧ (k ≤ L.length) ∧ (True)) (fun (k, v2) => L.length - k) ((0, v0)) ⟨rfl, trivial⟩ ⟨hm, hons, hmays, hbi, hrest, hB, a, hout, (by rw [List.take_zero, List.map_nil, List.append_nil]; exact hown), Q, (Nat.zero_le _), trivial⟩ ?_
 clear hm hons hmays hbi hrest hout hown hB Q a
 rintro ⟨k, v2⟩ aA aB ⟨hm, hons, hmays, hbi, hrest, hB, a, hout, hown, hap, hk, _⟩ aC ab
 refine Zr <| Zv (dN rfl rfl) <| cT <| cZ fun aD ac => ZQ rfl (fun ad => ?_) fun ad => ?_
 refine c9 <| ac _ _ <| cZ fun aE ae => c7 ?_
 have hck := hcm (L.getD k ⟨0, 0⟩) (dU (by omega))
 obtain ⟨hck1, hck2, _, _⟩ := hck
 have hle256 := f6 h8
 have hck3 : (L.getD k ⟨0, 0⟩).v ≤ (L.getD k ⟨0, 0⟩).m := by rw [← hck2]; exact Nat.and_le_right
 refine Zr <| Zv (dI (v := F) rfl a.sl rfl fi Om Ol76_0) <| Zv (g7 rfl dP (dO.cell a.sl gw ⟨0, 0⟩ Om Ol76_0 0 rfl) (dO.cell a.sl gw ⟨0, 0⟩ Om Ol76_0 1 rfl)) <| Zy (dw jj rfl fun M aF I z d => ?_)
 have O : N ≤ M := I ▸ (Nat.le_trans hN0 (Below.size hB))
 have P := dh.neB (b := M) a (Nat.le_of_eq I.symm)
 have J := dh.neB (b := M) hown (Nat.le_of_eq I.symm)
 clear I
 replace hm := z.at hm
 replace hons := z.at hons
 replace hmays := z.at hmays
 replace hbi := z.at hbi
 replace hrest := z.at hrest
 replace hB := dH hB z hN0
 replace a := z.ow a
 replace hout := z.at hout
 replace hown := z.ow hown
 refine Zy (dg rfl rfl dP rfl d rfl rfl fun aG A af => ?_)
 replace hm := At.grownAt hm d A Dd
 replace hons := At.grownAt hons d A Dd
 replace hmays := At.grownAt hmays d A Dd
 replace hbi := At.grownAt hbi d A Dd
 replace hrest := At.grownAt hrest d A Dd
 replace hB := du hB A hN0 (fun j hj => by cases hj; exact O)
 replace a := dh.grownAtNe a P A
 replace hout := At.grownAt hout d A Dd
 replace hown := dh.grownAtNe hown J A
 replace d := af
 refine cT <| Zd d9 fun ag p => ?_
 replace hm := p.at hm
 replace hons := p.at hons
 replace hmays := p.at hmays
 replace hbi := p.at hbi
 replace hrest := p.at hrest
 replace hB := dH hB p hN0
 replace a := p.ow a
 replace hout := p.at hout
 replace hown := p.ow hown
 replace d := p.at d
 have hS := d9.refl ag
 refine Tf 0 rfl rfl eX hS <| Tk 1 rfl (fun _ hq => dk (v := .int .u8 _) rfl ek (At.cell (hq.at d) rfl)) hS <| Tk 2 rfl (fun _ hq => dk (v := .int .i64 _) rfl dC (At.cell (hq.at hbi) rfl)) hS <| Tk 3 rfl (fun _ _ => jP (m := 1) rfl rfl Om (by simp only [IntKind.bits]; omega) (by exact rP _ _ (by simp only [l7]; omega))) hS <| Tk 4 rfl (fun _ _ => Dq (n := _) rfl rfl rfl (by show (L.getD k ⟨0, 0⟩).m < 256; omega) (by exact rP _ _ (by simp only [l7]; omega))) hS <| Tf 5 rfl rfl eX hS <| To 6 rfl (eH (v := .int .u8 _) rfl rfl ek rfl d (by simp) fun aH B ah => ⟨.inr (by kernel_rfl), ?_⟩)
 replace hm := At.grownAt hm d B Dd
 replace hons := At.grownAt hons d B Dd
 replace hmays := At.grownAt hmays d B Dd
 replace hbi := At.grownAt hbi d B Dd
 replace hrest := At.grownAt hrest d B Dd
 replace hB := du hB B hN0 (fun j hj => by cases hj; exact O)
 replace a := dh.grownAtNe a P B
 replace hout := At.grownAt hout d B Dd
 replace hown := dh.grownAtNe hown J B
 replace d := ah
 replace d : At _ _ #[_, _] _ := d
 refine Td <| Zd d9 fun ai q => ?_
 replace hm := q.at hm
 replace hons := q.at hons
 replace hmays := q.at hmays
 replace hbi := q.at hbi
 replace hrest := q.at hrest
 replace hB := dH hB q hN0
 replace a := q.ow a
 replace hout := q.at hout
 replace hown := q.ow hown
 replace d := q.at d
 have hS := d9.refl ai
 refine Tf 0 rfl rfl gC hS <| Tk 1 rfl (fun _ hq => dk (v := .int .u8 _) rfl ek (At.cell (hq.at d) rfl)) hS <| Tw 2 (.int .i64 0) rfl rfl hS <| Tk 3 rfl (fun _ _ => iB (m := 0) rfl Tryz.underlying3 Tryz.underlying5 Dd) hS <| Tk 4 rfl (fun _ hq => dk (v := .int .i64 _) rfl dC (At.cell (hq.at hbi) rfl)) hS <| Tk 5 rfl (fun _ _ => jP (m := 0) rfl rfl Om (by simp only [IntKind.bits]; omega) (by rw [Nat.zero_mul]; decide)) hS <| Tk 6 rfl (fun _ _ => Dq (n := _) rfl rfl rfl (by show (L.getD k ⟨0, 0⟩).v < 256; omega) (by rw [Nat.zero_mul]; decide)) hS <| Tf 7 rfl rfl gC hS <| To 8 rfl (eH (v := .int .u8 _) rfl rfl ek rfl d (by simp) fun aI C aj => ⟨.inr (by kernel_rfl), ?_⟩)
 replace hm := At.grownAt hm d C Dd
 replace hons := At.grownAt hons d C Dd
 replace hmays := At.grownAt hmays d C Dd
 replace hbi := At.grownAt hbi d C Dd
 replace hrest := At.grownAt hrest d C Dd
 replace hB := du hB C hN0 (fun j hj => by cases hj; exact O)
 replace a := dh.grownAtNe a P C
 replace hout := At.grownAt hout d C Dd
 replace hown := dh.grownAtNe hown J C
 replace d := aj
 replace d : At _ _ #[_, _] _ := d
 refine Td <| cY <| ZL v2 rfl rM hout rfl <| Zv (db rfl dP rfl d) <| Zy (eU (u := .agg #[_, _]) rfl fi jo rfl Dd Dd fun K aJ H r ak => ?_)
 have aK : N ≤ K := H ▸ (Nat.le_trans hN0 (Below.size hB))
 have aL := dh.neB (b := K) a (Nat.le_of_eq H.symm)
 have aM := dh.neB (b := K) hown (Nat.le_of_eq H.symm)
 have aN := Zn H d.lt
 clear H
 replace hm := r.at hm
 replace hons := r.at hons
 replace hmays := r.at hmays
 replace hbi := r.at hbi
 replace hrest := r.at hrest
 replace hB := dH hB r hN0
 replace a := r.ow a
 replace hout := r.at hout
 replace hown := r.ow hown
 replace d := r.at d
 refine Zy (gx (v := v2) (v2 := .slice (some ⟨K, 0, none⟩) 1 1) rfl rfl fi jo Dd hown (fm ak rfl) rfl (by have := Below.size hB; omega) (by first | omega | (simp; omega) | (simp only [cV, cW, cX, da]; omega)) (by first | omega | (simp; omega) | (simp only [cV, cW, cX, da]; omega)) fun R aO D G al => ?_)
 have ao := eW.app hap al a
 replace G := dh.snoc (enc := ib) (x := ⟨_, _⟩) rfl rfl rfl rfl G
 replace hm := At.grownOw hm hown D Dd
 replace hons := At.grownOw hons hown D Dd
 replace hmays := At.grownOw hmays hown D Dd
 replace hbi := At.grownOw hbi hown D Dd
 replace hrest := At.grownOw hrest hown D Dd
 replace hB := du hB D hN0 (fun j hj => (dh.lt hown j hj))
 replace a := dh.grownAp a hap D
 replace hout := At.grownOw hout hown D Dd
 replace d := At.grownOwNe d J D
 clear hown
 refine Zy (eH (v := R) rfl rfl rM (dO.one G.sl) hout (by simp) fun aP s ap => ?_)
 replace hm := At.grownAt hm hout s Dd
 replace hons := At.grownAt hons hout s Dd
 replace hmays := At.grownAt hmays hout s Dd
 replace hbi := At.grownAt hbi hout s Dd
 replace hrest := At.grownAt hrest hout s Dd
 replace hB := du hB s hN0 (fun j hj => by cases hj; exact loo)
 replace a := dh.grownAt a hout s Dd
 replace d := At.grownAt d hout s Dd
 replace G := dh.grownAt G hout s Dd
 clear s hout
 replace hout := ap
 replace hout : At _ _ #[_] _ := hout
 refine cT <| ae _ _ <| cY <| Zv (dp rfl rfl Om Om) <| Zi rfl <| cT ?_
 exact ab _ _ ((k + 1, R)) Za ⟨rfl, trivial⟩ ⟨hm, hons, hmays, hbi, hrest, hB, a, hout, (by rw [BH Om, ← List.append_assoc]; exact G), ao, Om, trivial⟩ (by show L.length - (k + 1) < L.length - k; omega)
 refine dt ?_
 repeat (first | refine oM ?_ | refine nj ?_)
 refine nF ?_
 repeat (first | refine ku ?_ | refine jC ?_)
 refine JO ?_
 have hkL : k = L.length := by omega
 rw [hkL, List.take_length] at hown
 exact ⟨hB, hm, hons, hmays, hbi, hrest, _, hout, hown⟩
theorem Sc (n f i on may N bm bons bmays bi brest bout rest : Nat) (v0 : Value) (out : List Cb) (w : World) (hN0 : N ≤ w.heap.size) (hih : ∀ (on may i : Nat) (w : World), n ≤ 8 → nc n on may i → n + 1 - i ≤ f → f ≤ 9 → Fn Tryz.prog 113 #[.agg #[.int .i64 (n : Int), wv (ft n) 0, wv (ft n) 1, wv (ft n) 2, wv (ft n) 3], eP on, eP may, .int .i64 (i : Int)] w fun v w' => dh ib 2 40 w' w.heap.size v (eK n f on may i)) (h8 : n ≤ 8) (hg : nc n on may i) (hi : i < n) (hf : n + 1 - (i + 1) ≤ f) (hf9 : f ≤ 8) (hm : At w bm #[.int .i64 (n : Int), wv (ft n) 0, wv (ft n) 1, wv (ft n) 2, wv (ft n) 3] 157) (hons : At w bons (m4 (dq on i false) (dq on i true)) 164) (hmays : At w bmays (m4 (dq may i false) (dq may i true)) 164) (hbi : At w bi #[.int .i64 (i : Int)] 3) (hrest : At w brest #[wv rest 0, wv rest 1, wv rest 2, wv rest 3] 49) (hout : At w bout #[v0] 66) (hown : dh ib 2 40 w N v0 out) (hlen : out.length ≤ 20000) (lor : N ≤ brest) (loo : N ≤ bout) :
    rg Tryz.prog 128 #[.int .i64 1, .pointer (some ⟨bm, 0, none⟩), .pointer (some ⟨bons, 0, none⟩), .pointer (some ⟨bmays, 0, none⟩), .pointer (some ⟨bi, 0, none⟩), .pointer (some ⟨brest, 0, none⟩), .pointer (some ⟨bout, 0, none⟩)] w fun v w' => Below N w w' ∧ At w' bm #[.int .i64 (n : Int), wv (ft n) 0, wv (ft n) 1, wv (ft n) 2, wv (ft n) 3] 157 ∧ At w' bons (m4 (dq on i false) (dq on i true)) 164 ∧ At w' bmays (m4 (dq may i false) (dq may i true)) 164 ∧ At w' bi #[.int .i64 (i : Int)] 3 ∧ At w' brest #[wv (rest ||| andNot (dq on i true) (kW (eK n f (andNot (dq on i true) (dq may i false)) (dq may i true) (i + 1)) n (eK n f (andNot (dq on i true) (dq may i false)) (dq may i true) (i + 1)).length)) 0, wv (rest ||| andNot (dq on i true) (kW (eK n f (andNot (dq on i true) (dq may i false)) (dq may i true) (i + 1)) n (eK n f (andNot (dq on i true) (dq may i false)) (dq may i true) (i + 1)).length)) 1, wv (rest ||| andNot (dq on i true) (kW (eK n f (andNot (dq on i true) (dq may i false)) (dq may i true) (i + 1)) n (eK n f (andNot (dq on i true) (dq may i false)) (dq may i true) (i + 1)).length)) 2, wv (rest ||| andNot (dq on i true) (kW (eK n f (andNot (dq on i true) (dq may i false)) (dq may i true) (i + 1)) n (eK n f (andNot (dq on i true) (dq may i false)) (dq may i true) (i + 1)).length)) 3] 49 ∧ ∃ v1, At w' bout #[v1] 66 ∧ dh ib 2 40 w' N v1 (out ++ (eK n f (andNot (dq on i true) (dq may i false)) (dq may i true) (i + 1)).map (ir i 1)) := by
 refine fc (n := 60) Tryz.func128 rfl rfl (Nat.le_of_ble_eq_true rfl) ?_
 have hB : Below N w w := Below.refl _ _
 have hi8 : i < 8 := by omega
 refine Zd d9 fun W3 E => ?_
 replace hm := E.at hm
 replace hons := E.at hons
 replace hmays := E.at hmays
 replace hbi := E.at hbi
 replace hrest := E.at hrest
 replace hout := E.at hout
 replace hown := E.ow hown
 replace hB := dH hB E hN0
 have hS := d9.refl W3
 refine Tk 0 rfl (fun _ hq => db rfl pZ rfl (hq.at hm)) hS <| Tw 1 (.int .i64 1) rfl rfl hS <| Tk 2 rfl (fun _ _ => fj rfl rfl gU Om Om) hS <| Tk 3 rfl (fun _ hq => fo rfl df (At.cell (hq.at hons) rfl) (At.cell (hq.at hons) rfl) (At.cell (hq.at hons) rfl) (At.cell (hq.at hons) rfl)) hS <| Tw 4 (.int .i64 1) rfl rfl hS <| Tk 5 rfl (fun _ _ => kD rfl rfl Om Om) hS <| Tk 6 rfl (fun _ _ => fj rfl rfl gU Om Om) hS <| Tk 7 rfl (fun _ hq => fo rfl df (At.cell (hq.at hmays) rfl) (At.cell (hq.at hmays) rfl) (At.cell (hq.at hmays) rfl) (At.cell (hq.at hmays) rfl)) hS <| Tw 9 (.int .i64 1) rfl rfl hS <| Tk 10 rfl (fun _ _ => fj rfl rfl gU Om Om) hS <| Tk 11 rfl (fun _ hq => fo rfl df (At.cell (hq.at hmays) rfl) (At.cell (hq.at hmays) rfl) (At.cell (hq.at hmays) rfl) (At.cell (hq.at hmays) rfl)) hS <| Tk 12 rfl (fun _ hq => dk (v := .int .i64 _) rfl dC (At.cell (hq.at hbi) rfl)) hS <| Tk 13 rfl (fun _ _ => dp rfl rfl Om Om) hS <| To 8 rfl (TC (vs := [.agg #[_, _, _, _], .agg #[_, _, _, _]]) xe (mD _ _ _) rfl fun aq W5 l S => ⟨.inl (hS.trans l), ?_⟩)
 replace hm := l.at hm
 replace hons := l.at hons
 replace hmays := l.at hmays
 replace hbi := l.at hbi
 replace hrest := l.at hrest
 replace hout := l.at hout
 replace hown := l.ow hown
 replace hB := dH hB l hN0
 replace hS := hS.trans l
 obtain rfl := S
 refine To 14 rfl (TC (vs := [.agg #[_, _, _, _, _], .agg #[_, _, _, _], .agg #[_, _, _, _], .int .i64 _]) uI (hih _ _ (i + 1) _ h8 (hg.side h8 hi true) hf (Nat.le_trans hf9 Dd)) rfl fun F W9 o a => ⟨.inl (hS.trans o), ?_⟩)
 have T := dh.lt2 hown
 have U := (Nat.le_trans hN0 (Below.size hB))
 replace hm := o.at hm
 replace hons := o.at hons
 replace hmays := o.at hmays
 replace hbi := o.at hbi
 replace hrest := o.at hrest
 replace hout := o.at hout
 replace hown := o.ow hown
 replace hB := dH hB o hN0
 replace hS := hS.trans o
 have Q := eW.new T a
 replace a := dh.mono a U
 have hcm : jl n (dq may i true) (i + 1) (eK n f (andNot (dq on i true) (dq may i false)) (dq may i true) (i + 1)) := (kA h8 f _ _ _ (hg.side h8 hi true) hf).1
 have hcl := i6 (n := n) f (andNot (dq on i true) (dq may i false)) (dq may i true) (i + 1)
 have h3f : 3 ^ f ≤ 3 ^ 8 := Nat.pow_le_pow_right (by decide) hf9
 try simp only [Bool.not_false, Bool.not_true] at a
 generalize hL : eK n f (andNot (dq on i true) (dq may i false)) (dq may i true) (i + 1) = L at *
 refine Tw 15 F rfl rfl hS <| Td <| Zd d9 fun V t => ?_
 replace hm := t.at hm
 replace hons := t.at hons
 replace hmays := t.at hmays
 replace hbi := t.at hbi
 replace hrest := t.at hrest
 replace hout := t.at hout
 replace hown := t.ow hown
 replace hB := dH hB t hN0
 replace a := t.ow a
 have hS := d9.refl V
 refine Tk 0 rfl (fun _ hq => db rfl df rfl (hq.at hrest)) hS <| Tw 1 (.int .i64 1) rfl rfl hS <| Tk 2 rfl (fun _ _ => fj rfl rfl gU Om Om) hS <| Tk 3 rfl (fun _ hq => fo rfl df (At.cell (hq.at hons) rfl) (At.cell (hq.at hons) rfl) (At.cell (hq.at hons) rfl) (At.cell (hq.at hons) rfl)) hS <| Tk 4 rfl (fun _ hq => db rfl pZ rfl (hq.at hm)) hS <| Tw 5 F rfl rfl hS <| To 6 rfl (TC (vs := [.agg #[_, _, _, _, _], F]) FT (l5 n _ L _ h8 a.sl (fun c hc => ⟨(hcm c hc).1, (hcm c hc).2.1⟩) Om) rfl fun ar au e X => ⟨.inl (hS.trans e), ?_⟩)
 replace hm := e.at hm
 replace hons := e.at hons
 replace hmays := e.at hmays
 replace hbi := e.at hbi
 replace hrest := e.at hrest
 replace hout := e.at hout
 replace hown := e.ow hown
 replace hB := dH hB e hN0
 replace a := e.ow a
 replace hS := hS.trans e
 obtain rfl := X
 refine To 7 rfl (TC (vs := [.agg #[_, _, _, _], .agg #[_, _, _, _]]) xe (mD _ _ _) rfl fun av aw g Y => ⟨.inl (hS.trans g), ?_⟩)
 replace hm := g.at hm
 replace hons := g.at hons
 replace hmays := g.at hmays
 replace hbi := g.at hbi
 replace hrest := g.at hrest
 replace hout := g.at hout
 replace hown := g.ow hown
 replace hB := dH hB g hN0
 replace a := g.ow a
 replace hS := hS.trans g
 obtain rfl := Y
 refine To 8 rfl (TC (vs := [.agg #[_, _, _, _], .agg #[_, _, _, _]]) r8 (sy _ _ _) rfl fun ax ay h Z => ⟨.inl (hS.trans h), ?_⟩)
 replace hm := h.at hm
 replace hons := h.at hons
 replace hmays := h.at hmays
 replace hbi := h.at hbi
 replace hrest := h.at hrest
 replace hout := h.at hout
 replace hown := h.ow hown
 replace hB := dH hB h hN0
 replace a := h.ow a
 replace hS := hS.trans h
 obtain rfl := Z
 refine To 9 rfl (dg rfl rfl df rfl hrest rfl rfl fun az y aa => ⟨.inr (by kernel_rfl), ?_⟩)
 replace hm := At.grownAt hm hrest y Dd
 replace hons := At.grownAt hons hrest y Dd
 replace hmays := At.grownAt hmays hrest y Dd
 replace hbi := At.grownAt hbi hrest y Dd
 replace hout := At.grownAt hout hrest y Dd
 replace hown := dh.grownAt hown hrest y Dd
 replace hB := du hB y hN0 (fun j hj => by cases hj; exact lor)
 replace a := dh.grownAt a hrest y Dd
 clear y hrest
 replace hrest := aa
 refine Td <| Zr <| Zw F rfl <| Zv (dB (v := F) rfl a.sl fi) <| Zw (.int .i64 0) rfl <| cT <| c7 ?_
 refine dz (σ := (Nat) × (Value)) [10, 37, 38, 39, 40, 41, 42, 43, 44, 45, 46, 47, 48, 49, 50, 51, 52, 53, 54, 55, 56, 57, 58, 59] (fun (k, v2) => [(37, .int .i64 (k : Int))]) (fun sg W => match sg with | (k, v2) => (At W bm _ 157) ∧ (At W bons _ 164) ∧ (At W bmays _ 164) ∧ (At W bi _ 3) ∧ (At W brest _ 49) ∧ (Below N w W) ∧ (dh ib 2 40 W N F _) ∧ (At W bout #[v2] 66) ∧ (dh ib 2 40 W N v2 (out ++ (L.take k).map (ir i 1))) ∧ (eW v2 F) ∧ (k ≤ L.length) ∧ (True)) (fun (k, v2) => L.length - k) ((0, v0)) ⟨rfl, trivial⟩ ⟨hm, hons, hmays, hbi, hrest, hB, a, hout, (by rw [List.take_zero, List.map_nil, List.append_nil]; exact hown), Q, (Nat.zero_le _), trivial⟩ ?_
 clear hm hons hmays hbi hrest hout hown hB Q a
 rintro ⟨k, v2⟩ aA aB ⟨hm, hons, hmays, hbi, hrest, hB, a, hout, hown, hap, hk, _⟩ aC ab
 refine Zr <| Zv (dN rfl rfl) <| cT <| cZ fun aD ac => ZQ rfl (fun ad => ?_) fun ad => ?_
 refine c9 <| ac _ _ <| cZ fun aE ae => c7 ?_
 have hck := hcm (L.getD k ⟨0, 0⟩) (dU (by omega))
 obtain ⟨hck1, hck2, _, _⟩ := hck
 have hle256 := f6 h8
 have hck3 : (L.getD k ⟨0, 0⟩).v ≤ (L.getD k ⟨0, 0⟩).m := by rw [← hck2]; exact Nat.and_le_right
 refine Zr <| Zv (dI (v := F) rfl a.sl rfl fi Om Ol76_0) <| Zv (g7 rfl dP (dO.cell a.sl gw ⟨0, 0⟩ Om Ol76_0 0 rfl) (dO.cell a.sl gw ⟨0, 0⟩ Om Ol76_0 1 rfl)) <| Zy (dw jj rfl fun M aF I z d => ?_)
 have O : N ≤ M := I ▸ (Nat.le_trans hN0 (Below.size hB))
 have P := dh.neB (b := M) a (Nat.le_of_eq I.symm)
 have J := dh.neB (b := M) hown (Nat.le_of_eq I.symm)
 clear I
 replace hm := z.at hm
 replace hons := z.at hons
 replace hmays := z.at hmays
 replace hbi := z.at hbi
 replace hrest := z.at hrest
 replace hB := dH hB z hN0
 replace a := z.ow a
 replace hout := z.at hout
 replace hown := z.ow hown
 refine Zy (dg rfl rfl dP rfl d rfl rfl fun aG A af => ?_)
 replace hm := At.grownAt hm d A Dd
 replace hons := At.grownAt hons d A Dd
 replace hmays := At.grownAt hmays d A Dd
 replace hbi := At.grownAt hbi d A Dd
 replace hrest := At.grownAt hrest d A Dd
 replace hB := du hB A hN0 (fun j hj => by cases hj; exact O)
 replace a := dh.grownAtNe a P A
 replace hout := At.grownAt hout d A Dd
 replace hown := dh.grownAtNe hown J A
 replace d := af
 refine cT <| Zd d9 fun ag p => ?_
 replace hm := p.at hm
 replace hons := p.at hons
 replace hmays := p.at hmays
 replace hbi := p.at hbi
 replace hrest := p.at hrest
 replace hB := dH hB p hN0
 replace a := p.ow a
 replace hout := p.at hout
 replace hown := p.ow hown
 replace d := p.at d
 have hS := d9.refl ag
 refine Tf 0 rfl rfl eX hS <| Tk 1 rfl (fun _ hq => dk (v := .int .u8 _) rfl ek (At.cell (hq.at d) rfl)) hS <| Tk 2 rfl (fun _ hq => dk (v := .int .i64 _) rfl dC (At.cell (hq.at hbi) rfl)) hS <| Tk 3 rfl (fun _ _ => jP (m := 1) rfl rfl Om (by simp only [IntKind.bits]; omega) (by exact rP _ _ (by simp only [l7]; omega))) hS <| Tk 4 rfl (fun _ _ => Dq (n := _) rfl rfl rfl (by show (L.getD k ⟨0, 0⟩).m < 256; omega) (by exact rP _ _ (by simp only [l7]; omega))) hS <| Tf 5 rfl rfl eX hS <| To 6 rfl (eH (v := .int .u8 _) rfl rfl ek rfl d (by simp) fun aH B ah => ⟨.inr (by kernel_rfl), ?_⟩)
 replace hm := At.grownAt hm d B Dd
 replace hons := At.grownAt hons d B Dd
 replace hmays := At.grownAt hmays d B Dd
 replace hbi := At.grownAt hbi d B Dd
 replace hrest := At.grownAt hrest d B Dd
 replace hB := du hB B hN0 (fun j hj => by cases hj; exact O)
 replace a := dh.grownAtNe a P B
 replace hout := At.grownAt hout d B Dd
 replace hown := dh.grownAtNe hown J B
 replace d := ah
 replace d : At _ _ #[_, _] _ := d
 refine Td <| Zd d9 fun ai q => ?_
 replace hm := q.at hm
 replace hons := q.at hons
 replace hmays := q.at hmays
 replace hbi := q.at hbi
 replace hrest := q.at hrest
 replace hB := dH hB q hN0
 replace a := q.ow a
 replace hout := q.at hout
 replace hown := q.ow hown
 replace d := q.at d
 have hS := d9.refl ai
 refine Tf 0 rfl rfl gC hS <| Tk 1 rfl (fun _ hq => dk (v := .int .u8 _) rfl ek (At.cell (hq.at d) rfl)) hS <| Tw 2 (.int .i64 1) rfl rfl hS <| Tk 3 rfl (fun _ _ => iB (m := 1) rfl Tryz.underlying3 Tryz.underlying5 Dd) hS <| Tk 4 rfl (fun _ hq => dk (v := .int .i64 _) rfl dC (At.cell (hq.at hbi) rfl)) hS <| Tk 5 rfl (fun _ _ => jP (m := 1) rfl rfl Om (by simp only [IntKind.bits]; omega) (by exact rP _ _ (by simp only [l7]; omega))) hS <| Tk 6 rfl (fun _ _ => Dq (n := _) rfl rfl rfl (by show (L.getD k ⟨0, 0⟩).v < 256; omega) (by exact rP _ _ (by simp only [l7]; omega))) hS <| Tf 7 rfl rfl gC hS <| To 8 rfl (eH (v := .int .u8 _) rfl rfl ek rfl d (by simp) fun aI C aj => ⟨.inr (by kernel_rfl), ?_⟩)
 replace hm := At.grownAt hm d C Dd
 replace hons := At.grownAt hons d C Dd
 replace hmays := At.grownAt hmays d C Dd
 replace hbi := At.grownAt hbi d C Dd
 replace hrest := At.grownAt hrest d C Dd
 replace hB := du hB C hN0 (fun j hj => by cases hj; exact O)
 replace a := dh.grownAtNe a P C
 replace hout := At.grownAt hout d C Dd
 replace hown := dh.grownAtNe hown J C
 replace d := aj
 replace d : At _ _ #[_, _] _ := d
 refine Td <| cY <| ZL v2 rfl rM hout rfl <| Zv (db rfl dP rfl d) <| Zy (eU (u := .agg #[_, _]) rfl fi jo rfl Dd Dd fun K aJ H r ak => ?_)
 have aK : N ≤ K := H ▸ (Nat.le_trans hN0 (Below.size hB))
 have aL := dh.neB (b := K) a (Nat.le_of_eq H.symm)
 have aM := dh.neB (b := K) hown (Nat.le_of_eq H.symm)
 have aN := Zn H d.lt
 clear H
 replace hm := r.at hm
 replace hons := r.at hons
 replace hmays := r.at hmays
 replace hbi := r.at hbi
 replace hrest := r.at hrest
 replace hB := dH hB r hN0
 replace a := r.ow a
 replace hout := r.at hout
 replace hown := r.ow hown
 replace d := r.at d
 refine Zy (gx (v := v2) (v2 := .slice (some ⟨K, 0, none⟩) 1 1) rfl rfl fi jo Dd hown (fm ak rfl) rfl (by have := Below.size hB; omega) (by first | omega | (simp; omega) | (simp only [cV, cW, cX, da]; omega)) (by first | omega | (simp; omega) | (simp only [cV, cW, cX, da]; omega)) fun R aO D G al => ?_)
 have ao := eW.app hap al a
 replace G := dh.snoc (enc := ib) (x := ⟨_, _⟩) rfl rfl rfl rfl G
 replace hm := At.grownOw hm hown D Dd
 replace hons := At.grownOw hons hown D Dd
 replace hmays := At.grownOw hmays hown D Dd
 replace hbi := At.grownOw hbi hown D Dd
 replace hrest := At.grownOw hrest hown D Dd
 replace hB := du hB D hN0 (fun j hj => (dh.lt hown j hj))
 replace a := dh.grownAp a hap D
 replace hout := At.grownOw hout hown D Dd
 replace d := At.grownOwNe d J D
 clear hown
 refine Zy (eH (v := R) rfl rfl rM (dO.one G.sl) hout (by simp) fun aP s ap => ?_)
 replace hm := At.grownAt hm hout s Dd
 replace hons := At.grownAt hons hout s Dd
 replace hmays := At.grownAt hmays hout s Dd
 replace hbi := At.grownAt hbi hout s Dd
 replace hrest := At.grownAt hrest hout s Dd
 replace hB := du hB s hN0 (fun j hj => by cases hj; exact loo)
 replace a := dh.grownAt a hout s Dd
 replace d := At.grownAt d hout s Dd
 replace G := dh.grownAt G hout s Dd
 clear s hout
 replace hout := ap
 replace hout : At _ _ #[_] _ := hout
 refine cT <| ae _ _ <| cY <| Zv (dp rfl rfl Om Om) <| Zi rfl <| cT ?_
 exact ab _ _ ((k + 1, R)) Za ⟨rfl, trivial⟩ ⟨hm, hons, hmays, hbi, hrest, hB, a, hout, (by rw [BH Om, ← List.append_assoc]; exact G), ao, Om, trivial⟩ (by show L.length - (k + 1) < L.length - k; omega)
 refine dt ?_
 repeat (first | refine oM ?_ | refine nj ?_)
 refine nF ?_
 repeat (first | refine ku ?_ | refine jC ?_)
 refine JO ?_
 have hkL : k = L.length := by omega
 rw [hkL, List.take_length] at hown
 exact ⟨hB, hm, hons, hmays, hbi, hrest, _, hout, hown⟩
theorem KH (n f i on may : Nat) (w : World) (hih : ∀ (on may i : Nat) (w : World), n ≤ 8 → nc n on may i → n + 1 - i ≤ f → f ≤ 9 → Fn Tryz.prog 113 #[.agg #[.int .i64 (n : Int), wv (ft n) 0, wv (ft n) 1, wv (ft n) 2, wv (ft n) 3], eP on, eP may, .int .i64 (i : Int)] w fun v w' => dh ib 2 40 w' w.heap.size v (eK n f on may i)) (h8 : n ≤ 8) (hg : nc n on may i) (hf : n + 1 - i ≤ f + 1) (hf9 : f + 1 ≤ 9) :
    Fn Tryz.prog 113 #[.agg #[.int .i64 (n : Int), wv (ft n) 0, wv (ft n) 1, wv (ft n) 2, wv (ft n) 3], eP on, eP may, .int .i64 (i : Int)] w fun v w' => dh ib 2 40 w' w.heap.size v (eK n (f + 1) on may i) := by
 refine dr (n := 61) Tryz.func113 rfl rfl (Nat.le_of_ble_eq_true rfl) ?_
 have hB : Below w.heap.size w w := Below.refl _ _
 refine Zr <| Zy (dW (c := #[_, _, _, _, _]) rfl rfl fun A W3 ab aq e => ?_)
 have aT := ZO ab hB
 clear ab
 replace hB := Ze hB aq
 refine Zy (dW (c := #[_, _, _, _]) rfl rfl fun ar W6 ac ad l => ?_)
 have aU := ZO ac hB
 clear ac
 replace hB := Ze hB ad
 replace e := ad.at e
 refine Zy (dW (c := #[_, _, _, _]) rfl rfl fun au W9 V X m => ?_)
 have aV := ZO V hB
 have aW := Zn V l.lt
 clear V
 replace hB := Ze hB X
 replace e := X.at e
 replace l := X.at l
 refine Zy (dW (c := #[_]) rfl rfl fun B aX ae R j => ?_)
 have aY := ZO ae hB
 clear ae
 replace hB := Ze hB R
 replace e := R.at e
 replace l := R.at l
 replace m := R.at m
 refine Zw (.slice none 0 0) rfl <| cT <| cZ fun aZ av => c7 <| Zr <| Zv (db rfl df rfl l) <| Zv (v := eP 0) (gK ) <| Zv (rL rfl rfl) <| Zb rfl <| cT <| ZQ rfl (fun S => ?_) fun S => ?_
 refine Zr <| Zw (.slice none 0 0) rfl <| cT <| Zt <| dE (v := .slice none 0 0) rfl ⟨hB, ?_⟩
 rw [eK, if_pos (uY S)]
 exact dh.nil
 refine Zr <| Zv (db rfl df rfl m) <| Zf rfl Ew <| Zv (fo rfl df (At.cell e rfl) (At.cell e rfl) (At.cell e rfl) (At.cell e rfl)) <| Zv (rL rfl rfl) <| Zb rfl <| cT <| ZQ rfl (fun Y => ?_) fun Y => ?_
 refine Zr <| Zv (t3 ) <| Zy (eU (u := .agg #[_, _]) rfl fi jo rfl Dd Dd fun af a0 ag P aw => ?_)
 have ax := ZO ag hB
 clear ag
 replace hB := Ze hB P
 replace e := P.at e
 replace l := P.at l
 replace m := P.at m
 replace j := P.at j
 refine Zw (.slice (some ⟨af, 0, none⟩) 1 1) rfl <| cT <| Zt <| dE (v := .slice (some ⟨af, 0, none⟩) 1 1) rfl ⟨hB, ?_⟩
 rw [eK, if_neg (fun h => S (sx h)), if_pos (uY Y)]
 exact iE (enc := ib) (a := ⟨0, 0⟩) aw rfl rfl ax
 refine c9 <| av _ _ ?_
 have h0 : ¬ xJ on 0 = true := fun h => S (sx h)
 have h1 : ¬ xJ may (ft n) = true := fun h => Y (sx h)
 have hi : i < n := MA h8 hg h0 h1
 have hf1 : n + 1 - (i + 1) ≤ f := by omega
 have hi8 : i < 8 := by omega
 refine Zr <| Zy (dw vr rfl fun o a1 ah Q g => ?_)
 have ay := ZO ah hB
 clear ah
 replace hB := Ze hB Q
 replace e := Q.at e
 replace l := Q.at l
 replace m := Q.at m
 replace j := Q.at j
 refine Zy (dw vr rfl fun C a2 Z N d => ?_)
 have az := ZO Z hB
 have ai := Zn Z g.lt
 clear Z
 replace hB := Ze hB N
 replace e := N.at e
 replace l := N.at l
 replace m := N.at m
 replace j := N.at j
 replace g := N.at g
 refine cT <| cZ fun a3 aA => ?_
 replace g := tF (s := on) (i := i) g
 replace d := tF (s := may) (i := i) d
 refine Zr <| Zw (.int .i64 0) rfl <| cT <| c7 ?_
 refine dz (σ := (Nat)) [11, 26, 27, 28, 29, 30, 31, 32, 33, 34, 35, 36, 37, 38, 39, 40, 41, 42, 43] (fun k => [(26, .int .i64 (k : Int))]) (fun k W => (Below w.heap.size w W) ∧ (At W A _ 157) ∧ (At W ar _ 49) ∧ (At W au _ 49) ∧ (At W B _ 3) ∧ (At W o (nR on i k) 164) ∧ (At W C (nR may i k) 164) ∧ (k ≤ 2) ∧ (True)) (fun k => 2 - k) (0) ⟨rfl, trivial⟩ ⟨hB, e, l, m, j, g, d, (Nat.zero_le _), trivial⟩ ?_
 clear hB e l m j g d
 rintro k a4 a5 ⟨hB, e, l, m, j, g, d, hk, _⟩ a6 aB
 refine Zr <| Zv (dN rfl rfl) <| cT <| cZ fun a7 aC => ZQ rfl (fun aD => ?_) fun aD => ?_
 refine c9 <| aC _ _ <| cZ fun a8 aE => c7 <| Zr <| Zi rfl <| Zi rfl <| cT ?_
 refine gF (fun a b => a.grownBy b (some o)) iv (fun aF L => ?_)
 replace hB := Ze hB L
 replace e := L.at e
 replace l := L.at l
 replace m := L.at m
 replace j := L.at j
 replace g := L.at g
 replace d := L.at d
 have T := g
 have hS := World.grownBy.refl aF (some o)
 refine Ti 0 rfl rfl hS <| Ti 1 rfl rfl hS <| Tk 2 rfl (fun _ hq => db rfl df rfl (At.grownAt l T hq Dd)) hS <| Tk 3 rfl (fun _ hq => dk (v := .int .i64 _) rfl dC (At.cell (At.grownAt j T hq Dd) rfl)) hS <| Ti 4 rfl rfl hS <| Tk 5 rfl (fun _ _ => eD rfl rfl) hS <| Tk 7 rfl (fun _ hq => db rfl df rfl (At.grownAt m T hq Dd)) hS <| Tk 8 rfl (fun _ hq => dk (v := .int .i64 _) rfl dC (At.cell (At.grownAt j T hq Dd) rfl)) hS <| Ti 9 rfl rfl hS <| Tk 10 rfl (fun _ _ => eD rfl rfl) hS <| To 6 rfl (TC (vs := [.agg #[_, _, _, _], .int .i64 _, .bool _]) Gh (ul _ _ _ _) rfl fun a9 ba D aG => ⟨.inl (dG hS (d9.grown D (some o))), ?_⟩)
 replace hB := Ze hB D
 replace e := D.at e
 replace l := D.at l
 replace m := D.at m
 replace j := D.at j
 replace g := D.at g
 replace d := D.at d
 replace hS := dG hS (d9.grown D (some o))
 obtain rfl := aG
 rw [if_pos (show 0 ≤ (i : Int) ∧ (i : Int) < 8 by omega)]
 simp only [Int.toNat_natCast]
 refine Tk 12 rfl (fun _ _ => fj rfl rfl gU Om Om) hS <| To 11 rfl (TC (vs := [.agg #[_, _, _, _], .int .i64 _, .bool _]) Gh (ul _ _ _ _) rfl fun bb bc E aH => ⟨.inl (dG hS (d9.grown E (some o))), ?_⟩)
 replace hB := Ze hB E
 replace e := E.at e
 replace l := E.at l
 replace m := E.at m
 replace j := E.at j
 replace g := E.at g
 replace d := E.at d
 replace hS := dG hS (d9.grown E (some o))
 obtain rfl := aH
 rw [if_pos (show 0 ≤ (i : Int) ∧ (i : Int) < 8 by omega)]
 simp only [Int.toNat_natCast]
 refine To 13 rfl (wc rfl rfl df rfl g (by rw [pD]; omega) rfl fun bd G aI => ⟨.inl (dG hS G), ?_⟩)
 replace hS := dG hS G
 replace hB := Zg hB G ay
 replace e := At.grownAt e g G Dd
 replace l := At.grownAt l g G Dd
 replace m := At.grownAt m g G Dd
 replace j := At.grownAt j g G Dd
 replace d := At.grownNe d (Ne.symm ai) G
 replace g := aI
 try simp only [Int.toNat_natCast] at g
 rw [rH (by omega)] at g
 refine Tk 14 rfl (fun _ _ => fj rfl rfl gU Om Om) hS <| To 15 rfl (wc rfl rfl df rfl d (by rw [pD]; omega) rfl fun bf O aJ => ⟨.inr (by kernel_rfl), ?_⟩)
 replace hB := Zg hB O az
 replace e := At.grownAt e d O Dd
 replace l := At.grownAt l d O Dd
 replace m := At.grownAt m d O Dd
 replace j := At.grownAt j d O Dd
 replace g := At.grownNe g ai O
 replace d := aJ
 try simp only [Int.toNat_natCast] at d
 rw [rH (by omega)] at d
 refine Td <| aE _ _ <| cY <| Zv (dp rfl rfl Om Om) <| Zi rfl <| cT ?_
 exact aB _ _ (k + 1) Za ⟨rfl, trivial⟩ ⟨hB, e, l, m, j, (by exact g), (by exact d), Om, trivial⟩ Zo
 refine dt <| aA _ _ ?_
 obtain rfl : k = 2 := by omega
 replace g : At _ _ (m4 (dq on i false) (dq on i true)) _ := g
 replace d : At _ _ (m4 (dq may i false) (dq may i true)) _ := d
 refine Zr <| Zy (dw Pc rfl fun H bg aj M p => ?_)
 have ak := ZO aj hB
 clear aj
 replace hB := Ze hB M
 replace e := M.at e
 replace l := M.at l
 replace m := M.at m
 replace j := M.at j
 replace g := M.at g
 replace d := M.at d
 refine cT <| Zr <| Zy (dw eR rfl fun F aK U I r => ?_)
 have al := ZO U hB
 have bh := Zn U l.lt
 have bi := Zn U m.lt
 clear U
 replace hB := Ze hB I
 replace e := I.at e
 replace l := I.at l
 replace m := I.at m
 replace j := I.at j
 replace g := I.at g
 replace d := I.at d
 replace p := I.at p
 replace r : At aK F #[wv 0 0, wv 0 1, wv 0 2, wv 0 3] 49 := r
 refine cT <| Zr <| Zv (gZ (vs := #[.pointer (some ⟨A, 0, none⟩), .pointer (some ⟨o, 0, none⟩), .pointer (some ⟨C, 0, none⟩), .pointer (some ⟨B, 0, none⟩), .pointer (some ⟨F, 0, none⟩), .pointer (some ⟨H, 0, none⟩)]) (by simp only [List.map_toArray, List.map_cons, List.map_nil]; rfl)) <| Zw (.func (.func 128) #[] #[.pointer (some ⟨A, 0, none⟩), .pointer (some ⟨o, 0, none⟩), .pointer (some ⟨C, 0, none⟩), .pointer (some ⟨B, 0, none⟩), .pointer (some ⟨F, 0, none⟩), .pointer (some ⟨H, 0, none⟩)]) rfl <| cT ?_
 have hca := (kA h8 f _ _ _ (hg.side h8 hi false) hf1)
 have hcb := (kA h8 f _ _ _ (hg.side h8 hi true) hf1)
 have hgr := hg.rest h8 hi hca.1 hcb.1 hca.2 hcb.2
 have hla := i6 (n := n) f (andNot (dq on i false) (dq may i true)) (dq may i false) (i + 1)
 have hlb := i6 (n := n) f (andNot (dq on i true) (dq may i false)) (dq may i true) (i + 1)
 have h3f : 3 ^ f ≤ 3 ^ 8 := Nat.pow_le_pow_right (by decide) (by omega)
 refine Zr <| Zw (.func (.func 128) #[] #[.pointer (some ⟨A, 0, none⟩), .pointer (some ⟨o, 0, none⟩), .pointer (some ⟨C, 0, none⟩), .pointer (some ⟨B, 0, none⟩), .pointer (some ⟨F, 0, none⟩), .pointer (some ⟨H, 0, none⟩)]) rfl ?_
 refine mY (dd := some 46) rfl rfl rfl (ka (q := 128) (first := #[]) (cap := #[.pointer (some ⟨A, 0, none⟩), .pointer (some ⟨o, 0, none⟩), .pointer (some ⟨C, 0, none⟩), .pointer (some ⟨B, 0, none⟩), .pointer (some ⟨F, 0, none⟩), .pointer (some ⟨H, 0, none⟩)]) (vs := #[.int .i64 0, .pointer (some ⟨A, 0, none⟩), .pointer (some ⟨o, 0, none⟩), .pointer (some ⟨C, 0, none⟩), .pointer (some ⟨B, 0, none⟩), .pointer (some ⟨F, 0, none⟩), .pointer (some ⟨H, 0, none⟩)]) rfl EZ (by simp only [List.map_toArray, List.map_cons, List.map_nil, List.append_toArray, List.nil_append, List.cons_append]; rfl)) (Sd n f i on may w.heap.size _ _ _ _ _ _ 0 _ [] _ (Below.size hB) hih h8 hg hi hf1 Om e g d j r p dh.nil (by simp) al ak) (fun bj bk aL => ?_)
 obtain ⟨hBt, e, g, d, j, r, vt0, p, hot0⟩ := aL
 replace hB := Below.trans hB hBt
 clear hBt
 refine cT <| Zr <| Zw (.func (.func 128) #[] #[.pointer (some ⟨A, 0, none⟩), .pointer (some ⟨o, 0, none⟩), .pointer (some ⟨C, 0, none⟩), .pointer (some ⟨B, 0, none⟩), .pointer (some ⟨F, 0, none⟩), .pointer (some ⟨H, 0, none⟩)]) rfl ?_
 refine mY (dd := some 48) rfl rfl rfl (ka (q := 128) (first := #[]) (cap := #[.pointer (some ⟨A, 0, none⟩), .pointer (some ⟨o, 0, none⟩), .pointer (some ⟨C, 0, none⟩), .pointer (some ⟨B, 0, none⟩), .pointer (some ⟨F, 0, none⟩), .pointer (some ⟨H, 0, none⟩)]) (vs := #[.int .i64 1, .pointer (some ⟨A, 0, none⟩), .pointer (some ⟨o, 0, none⟩), .pointer (some ⟨C, 0, none⟩), .pointer (some ⟨B, 0, none⟩), .pointer (some ⟨F, 0, none⟩), .pointer (some ⟨H, 0, none⟩)]) rfl EZ (by simp only [List.map_toArray, List.map_cons, List.map_nil, List.append_toArray, List.nil_append, List.cons_append]; rfl)) (Sc n f i on may w.heap.size _ _ _ _ _ _ _ _ _ _ (Below.size hB) hih h8 hg hi hf1 Om e g d j r p hot0 (by simp; omega) al ak) (fun bl bm aM => ?_)
 obtain ⟨hBt, e, g, d, j, r, vt1, p, hot1⟩ := aM
 replace hB := Below.trans hB hBt
 clear hBt hot0
 refine cT <| Zd (fun a b => a.grownBy b vt1.ownBlock) fun aN J => ?_
 replace hB := Ze hB J
 replace e := J.at e
 replace j := J.at j
 replace g := J.at g
 replace d := J.at d
 replace p := J.at p
 replace r := J.at r
 replace hot1 := J.ow hot1
 have t := hot1
 have hS := World.grownBy.refl aN vt1.ownBlock
 refine Tk 0 rfl (fun _ hq => dk (v := vt1) rfl rM (At.cell (At.grownOw p t hq Dd) rfl)) hS <| Tk 1 rfl (fun _ hq => db rfl pZ rfl (At.grownOw e t hq Dd)) hS <| Tk 2 rfl (fun _ hq => db rfl df rfl (At.grownOw r t hq Dd)) hS <| Tk 3 rfl (fun _ _ => fj rfl rfl gU Om Om) hS <| Tk 4 rfl (fun _ hq => fo rfl df (At.cell (At.grownOw d t hq Dd) rfl) (At.cell (At.grownOw d t hq Dd) rfl) (At.cell (At.grownOw d t hq Dd) rfl) (At.cell (At.grownOw d t hq Dd) rfl)) hS <| Tk 5 rfl (fun _ _ => fj rfl rfl gU Om Om) hS <| Tk 6 rfl (fun _ hq => fo rfl df (At.cell (At.grownOw d t hq Dd) rfl) (At.cell (At.grownOw d t hq Dd) rfl) (At.cell (At.grownOw d t hq Dd) rfl) (At.cell (At.grownOw d t hq Dd) rfl)) hS <| Tk 8 rfl (fun _ hq => dk (v := .int .i64 _) rfl dC (At.cell (At.grownOw j t hq Dd) rfl)) hS <| Tk 9 rfl (fun _ _ => dp rfl rfl Om Om) hS <| To 7 rfl (TC (vs := [.agg #[_, _, _, _], .agg #[_, _, _, _]]) tD (qF _ _ _) rfl fun bn bo x aO => ⟨.inl (dG hS (d9.grown x vt1.ownBlock)), ?_⟩)
 replace hB := Ze hB x
 replace e := x.at e
 replace j := x.at j
 replace g := x.at g
 replace d := x.at d
 replace p := x.at p
 replace r := x.at r
 replace hot1 := x.ow hot1
 replace hS := dG hS (d9.grown x vt1.ownBlock)
 obtain rfl := aO
 refine To 10 rfl (TC (vs := [.agg #[_, _, _, _, _], .agg #[_, _, _, _], .agg #[_, _, _, _], .int .i64 _]) uI (hih _ _ (i + 1) _ h8 hgr hf1 (Nat.le_trans (Nat.le_succ f) hf9)) rfl fun aP bp y K => ⟨.inl (dG hS (d9.grown y vt1.ownBlock)), ?_⟩)
 have aQ := dh.lt2 hot1
 have aR := (Below.size hB)
 replace hB := Ze hB y
 replace e := y.at e
 replace j := y.at j
 replace g := y.at g
 replace d := y.at d
 replace p := y.at p
 replace r := y.at r
 replace hot1 := y.ow hot1
 replace hS := dG hS (d9.grown y vt1.ownBlock)
 have ao := eW.new aQ K
 replace K := dh.mono K aR
 try simp only [Bool.not_false, Bool.not_true] at K
 have hlc := i6 (n := n) f (s7 n (dq on i false) (dq on i true) (eK n f (andNot (dq on i false) (dq may i true)) (dq may i false) (i + 1)) (eK n f (andNot (dq on i true) (dq may i false)) (dq may i true) (i + 1))) (dq may i false &&& dq may i true) (i + 1)
 refine To 11 rfl (gx (v := vt1) (v2 := aP) rfl rfl fi jo Dd hot1 K.sl (oO) (by have := Below.size hB; omega) (by simp only [List.nil_append, List.length_append, List.length_map, Nat.zero_or]; have hlc2 := hlc; unfold s7 at hlc2; omega) (by simp only [List.nil_append, List.length_append, List.length_map, Nat.zero_or]; have hlc2 := hlc; unfold s7 at hlc2; omega) fun ap bq z aa aS => ⟨.inl (dG hS z), ?_⟩)
 replace hS := dG hS z
 have br := eW.app ao aS K
 replace aa := dh.app (enc := ib) rfl rfl rfl rfl aa
 replace hB := ZG hB z hot1
 replace e := At.grownOw e hot1 z Dd
 replace j := At.grownOw j hot1 z Dd
 replace g := At.grownOw g hot1 z Dd
 replace d := At.grownOw d hot1 z Dd
 replace p := At.grownOw p hot1 z Dd
 replace r := At.grownOw r hot1 z Dd
 replace K := dh.grownAp K ao z
 clear hot1
 refine Tw 12 ap rfl rfl hS <| Td <| Zt <| dE (v := ap) rfl ⟨hB, ?_⟩
 rw [eK, if_neg h0, if_neg h1]
 exact aa
end
section
open Go Go.RowKit
theorem LA : eQ Tryz.prog 157 = some (.agg #[.int .i64 0, .int .u64 0, .int .u64 0, .int .u64 0, .int .u64 0]) := by kernel_rfl
theorem He : (Tryz.prog.info? 49).map (·.size) = some 4 := by kernel_rfl
theorem uz {f : Nat → Value} {w : World} {d : Option Nat} {ty : TypeId} {ps : String} {af : Array Edge} {g : Option (Nat × Bool)} {x0 x1 : Operand} {c0_0 c1_0 c1_1 c1_2 c1_3 : Value} (h0 : dQ f x0 = c0_0) (k0 : c0_0.cells = #[c0_0]) (h1 : dQ f x1 = .agg #[c1_0, c1_1, c1_2, c1_3]) :
    (execOp (dQ f) ⟨d, .build 157 #[(0, x0), (1, x1)], ty, ps, af, g⟩).run Tryz.prog w = .ok (.value (.agg #[c0_0, c1_0, c1_1, c1_2, c1_3])) w := by
  obtain ⟨i0, hi0, hz0⟩ := Option.bind_eq_some_iff.1 (show (Tryz.prog.info? 157).bind (·.zero) = _ from LA)
  obtain ⟨j3, hj3, hs3⟩ := Option.map_eq_some_iff.1 iq
  obtain ⟨j49, hj49, hs49⟩ := Option.map_eq_some_iff.1 He
  simp [execOp, h0, k0, h1, Instr.build, zeroValue, typeInfo, sizeOf, hi0, hz0, run_underlying Tryz.underlying157, Instr.fill, ff, hj3, hs3, hj49, hs49]
theorem N6 : dD Tryz.prog 86 = true := by kernel_rfl
theorem PV : dD Tryz.prog 87 = true := by kernel_rfl
theorem Fl (n : Nat) : ∀ (f : Nat), ∀ (on may i : Nat) (w : World), n ≤ 8 → nc n on may i → n + 1 - i ≤ f → f ≤ 9 → Fn Tryz.prog 113 #[.agg #[.int .i64 (n : Int), wv (ft n) 0, wv (ft n) 1, wv (ft n) 2, wv (ft n) 3], eP on, eP may, .int .i64 (i : Int)] w fun v w' => dh ib 2 40 w' w.heap.size v (eK n f on may i)
  | 0, on, may, i, w, _, hg, hf, _ => by have := hg.le; omega
  | f + 1, on, may, i, w, h8, hg, hf, hf9 => KH n f i on may w (Fl n f) h8 hg hf hf9
theorem Ax (on may : Nat) (n : Int) (w : World) :
    Fn Tryz.prog 86 #[eP on, eP may, .int .i64 n] w fun v w' => if yW on may n = true then ∃ x, v = .tuple #[x, .int .i64 0] ∧ dh ib 2 40 w' w.heap.size x (ji on may n) else v = .tuple #[.slice none 0 0, .int .i64 1] := by
 refine dr (n := 35) Tryz.func86 rfl rfl (Nat.le_of_ble_eq_true rfl) ?_
 have hB : Below w.heap.size w w := Below.refl _ _
 refine Zr <| Zy (dW (c := #[_, _, _, _]) rfl rfl fun K W3 s y a => ?_)
 have L := ZO s hB
 clear s
 replace hB := Ze hB y
 refine Zy (dW (c := #[_, _, _, _]) rfl rfl fun M W6 k t b => ?_)
 have N := ZO k hB
 have O := Zn k a.lt
 clear k
 replace hB := Ze hB t
 replace a := t.at a
 refine Zw (.slice none 0 0) rfl <| Zw (.int .i64 0) rfl <| cT <| Zr <| Zi rfl <| ZC wB (oe _ _) rfl fun P Q l z => ?_
 replace hB := Ze hB l
 replace a := l.at a
 replace b := l.at b
 obtain ⟨sa, er, rfl, hhP1_1⟩ := qJ z
 refine Zw (.tuple #[.agg #[_, _, _, _], .int .i64 _]) rfl <| Zv (dK rfl) <| Zv (dM rfl) <| Zy (dw eR rfl fun A B e m d => ?_)
 have C := ZO e hB
 have D := Zn e a.lt
 have E := Zn e b.lt
 clear e
 replace hB := Ze hB m
 replace a := m.at a
 replace b := m.at b
 replace d : At B A #[wv 0 0, wv 0 1, wv 0 2, wv 0 3] 49 := d
 refine Zy (dg rfl rfl df rfl d rfl rfl fun R o F => ?_)
 replace hB := Zg hB o C
 replace a := At.grownNe a D o
 replace b := At.grownNe b E o
 replace d := F
 refine Zi rfl <| cT <| cZ fun S G => Zr <| Zi rfl <| Zv (gq rfl rfl) <| ZX rfl (fun f => ?_) fun f => ?_
 refine Zs <| Zs <| Zs <| Zs <| Zw (.bool true) rfl <| Zw (.bool true) rfl <| Zs <| Zs <| Zs <| Zs <| Zw (.bool true) rfl <| cT <| dA rfl <| Zr ?_
 refine Zw (.slice none 0 0) rfl <| Zw (.int .i64 1) rfl <| cT <| Zt <| d8 (v := .slice none 0 0) rfl (v1 := .int .i64 1) rfl ⟨hB, ?_⟩
 rw [if_neg (Mt hhP1_1 f)]
 refine Zv (db rfl df rfl a) <| Zv (db rfl df rfl b) <| ZC (vs := [.agg #[_, _, _, _], .agg #[_, _, _, _]]) qt (il _ _ _) rfl fun T U g H => ?_
 replace hB := Ze hB g
 replace a := g.at a
 replace b := g.at b
 replace d := g.at d
 obtain rfl := H
 refine Zv (fG rfl) <| Zb rfl <| ZX rfl (fun p => ?_) fun p => ?_
 refine Zs <| Zs <| Zs <| Zs <| Zw (.bool true) rfl <| cT <| dA rfl <| Zr <| Zw (.slice none 0 0) rfl <| Zw (.int .i64 1) rfl <| cT <| Zt <| d8 (v := .slice none 0 0) rfl (v1 := .int .i64 1) rfl ⟨hB, ?_⟩
 rw [if_neg (Lj p)]
 refine Zv (db rfl df rfl b) <| Zv (db rfl df rfl d) <| ZC (vs := [.agg #[_, _, _, _], .agg #[_, _, _, _]]) qt (il _ _ _) rfl fun V W i I => ?_
 replace hB := Ze hB i
 replace a := i.at a
 replace b := i.at b
 replace d := i.at d
 obtain rfl := I
 refine Zv (fG rfl) <| Zb rfl <| cT <| ZQ rfl (fun q => ?_) fun q => ?_
 refine Zr <| Zw (.slice none 0 0) rfl <| Zw (.int .i64 1) rfl <| cT <| Zt <| d8 (v := .slice none 0 0) rfl (v1 := .int .i64 1) rfl ⟨hB, ?_⟩
 rw [if_neg (Lh hhP1_1 f q)]
 refine c9 <| G _ _ ?_
 have hok : yW on may n = true := O5 hhP1_1 f p q
 obtain ⟨h0, h8, rfl, rfl⟩ := hhP1_1.resolve_right (fun h => h.1 (ko (jX.1 hok).1))
 obtain ⟨n, rfl⟩ := Int.eq_ofNat_of_zero_le h0
 obtain ⟨hok8, hok9⟩ := zp hok
 refine Zr <| Zi rfl <| Zv (db rfl df rfl d) <| Zv (uz (h0 := rfl) (k0 := rfl) (h1 := rfl) (c0_0 := .int .i64 _)) <| Zv (db rfl df rfl a) <| Zv (db rfl df rfl b) <| ZC (vs := [.agg #[_, _, _, _, _], .agg #[_, _, _, _], .agg #[_, _, _, _], .int .i64 0]) uI (Fl n (n + 1) on may 0 _ hok8 hok9 Om Om) rfl fun u X j r => ?_
 have J := (Below.size hB)
 replace hB := Ze hB j
 replace a := j.at a
 replace b := j.at b
 replace d := j.at d
 replace r := dh.mono r J
 refine Zw u rfl <| Zw (.int .i64 0) rfl <| cT <| Zt <| d8 (v := u) rfl (v1 := .int .i64 0) rfl ⟨hB, ?_⟩
 rw [if_pos hok]
 exact ⟨_, rfl, r⟩
theorem Ak (on may : Nat) (n : Int) (w : World) :
    Fn Tryz.prog 46 #[eP on, eP may, .int .i64 n] w fun v w' => if yW on may n = true then ∃ x, v = .tuple #[x, .int .i64 0] ∧ dh ib 2 40 w' w.heap.size x (Ea may n (ji on may n)) else v = .tuple #[.slice none 0 0, .int .i64 1] := by
 refine dr (n := 52) Tryz.func46 rfl rfl (Nat.le_of_ble_eq_true rfl) ?_
 have hB : Below w.heap.size w w := Below.refl _ _
 refine Zr <| Zy (dW (c := #[_, _, _, _]) rfl rfl fun T W3 I U f => ?_)
 have ar := ZO I hB
 clear I
 replace hB := Ze hB U
 refine Zy (dW (c := #[_, _, _, _]) rfl rfl fun V W6 E J g => ?_)
 have au := ZO E hB
 have av := Zn E f.lt
 clear E
 replace hB := Ze hB J
 replace f := J.at f
 refine Zw (.slice none 0 0) rfl <| Zw (.int .i64 0) rfl <| cT <| Zr <| Zv (db rfl df rfl f) <| Zv (db rfl df rfl g) <| Zi rfl <| ZC (vs := [.agg #[_, _, _, _], .agg #[_, _, _, _], .int .i64 _]) N6 (Ax _ _ _ _) rfl fun aw ax F X => ?_
 have Y := (Below.size hB)
 replace hB := Ze hB F
 replace f := F.at f
 replace g := F.at g
 obtain ⟨x_hP1_3, er_hP1_3, l_hP1_3, rfl, ho_hP1_3, hc_hP1_3⟩ := EE X
 replace ho_hP1_3 := dh.mono ho_hP1_3 Y
 refine Zw (.tuple #[x_hP1_3, .int .i64 _]) rfl <| Zv (dK rfl) <| Zv (dM rfl) <| Zw x_hP1_3 rfl <| Zi rfl <| cT <| cZ fun ay Z => Zr <| Zi rfl <| Zv (gq rfl rfl) <| cT <| ZQ rfl (fun G => ?_) fun G => ?_
 refine Zr <| Zi rfl <| Zw (.slice none 0 0) rfl <| Zi rfl <| cT <| Zt <| d8 (v := .slice none 0 0) rfl (v1 := .int .i64 _) rfl ⟨hB, ?_⟩
 obtain ⟨hno, hee⟩ := Qk hc_hP1_3 G
 rw [if_neg hno, hee]
 refine c9 <| Z _ _ ?_
 obtain ⟨hok, hleq⟩ := IG hc_hP1_3 G
 subst hleq
 have hll := Cm (on := on) (may := may) (ko (jX.1 hok).1).2
 refine Zr <| Zy (gN (enc := iN) (encV := Value.bool) fun A az K B e => ?_)
 have aa := ZO K hB
 clear K
 replace hB := Ze hB B
 replace f := B.at f
 replace g := B.at g
 replace ho_hP1_3 := B.ow ho_hP1_3
 replace e : dT iN Value.bool _ _ (fF []) := e
 refine Zw (.map (some A)) rfl <| cT <| Zr <| Zw (.slice none 0 0) rfl <| cT <| cZ fun aA ab => Zr <| Zw x_hP1_3 rfl <| Zv (dB (v := x_hP1_3) rfl ho_hP1_3.sl fi) <| Zw (.int .i64 0) rfl <| cT <| c7 ?_
 refine dz (σ := (Nat) × (Value)) [11, 13, 14, 15, 29, 30, 31, 32, 33, 34, 35, 36, 37, 38, 39, 40, 41, 42, 43, 44, 45, 46, 47, 48, 49, 50] (fun (k, v0) => [(29, .int .i64 (k : Int)), (11, v0)]) (fun sg W => match sg with | (k, v0) => (Below w.heap.size w W) ∧ (At W T _ 49) ∧ (At W V _ 49) ∧ (dh ib 2 40 W w.heap.size x_hP1_3 _) ∧ (dT iN Value.bool W A (fF (iU may n (ji on may n) k))) ∧ (eW v0 x_hP1_3) ∧ (dh ib 2 40 W w.heap.size v0 (iU may n (ji on may n) k)) ∧ (k ≤ (ji on may n).length) ∧ (True)) (fun (k, v0) => (ji on may n).length - k) ((0, .slice none 0 0)) ⟨rfl, rfl, trivial⟩ ⟨hB, f, g, ho_hP1_3, e, eW.nilL, dh.nil, (Nat.zero_le _), trivial⟩ ?_
 clear hB f g ho_hP1_3 e
 rintro ⟨k, v0⟩ aB aC ⟨hB, f, g, ho_hP1_3, e, hap, ho, hk, _⟩ aD L
 refine Zr <| Zv (dN rfl rfl) <| cT <| cZ fun aE ac => ZQ rfl (fun ad => ?_) fun ad => ?_
 refine c9 <| ac _ _ <| cZ fun aF M => c7 <| Zr <| Zv (dI (v := x_hP1_3) rfl ho_hP1_3.sl rfl fi Om (by first | omega | (simp only [cV, cW, cX, da, de]; omega))) <| Zv (g7 rfl dP (dO.cell ho_hP1_3.sl gw ⟨0, 0⟩ Om (by first | omega | (simp only [cV, cW, cX, da, de]; omega)) 0 rfl) (dO.cell ho_hP1_3.sl gw ⟨0, 0⟩ Om (by first | omega | (simp only [cV, cW, cX, da, de]; omega)) 1 rfl)) <| Zy (dw jj rfl fun N aG C s h => ?_)
 have ae := ZO C hB
 have af := dh.neB (b := N) ho_hP1_3 (Nat.le_of_eq C.symm)
 have O := dh.neB (b := N) ho (Nat.le_of_eq C.symm)
 clear C
 replace hB := Ze hB s
 replace f := s.at f
 replace g := s.at g
 replace ho_hP1_3 := s.ow ho_hP1_3
 replace e := s.mapT e
 replace ho := s.ow ho
 refine Zy (dg rfl rfl dP rfl h rfl rfl fun aH t ag => ?_)
 replace hB := Zg hB t ae
 replace f := At.grownAt f h t Dd
 replace g := At.grownAt g h t Dd
 replace ho_hP1_3 := dh.grownAtNe ho_hP1_3 af t
 replace e := dT.grownAt e h t
 replace ho := dh.grownAtNe ho O t
 replace h := ag
 refine cT ?_
 obtain ⟨hi1, hi2, hi3, hi4⟩ := vq hok (dU (d := ⟨0, 0⟩) (show k < (ji on may n).length by omega))
 have hgl := p6 may n (ji on may n) k
 refine Zr <| Zv (db rfl dP rfl h) <| Zv (db rfl df rfl g) <| Zi rfl <| ZC (vs := [.agg #[_, _], .agg #[_, _, _, _], .int .i64 _]) PV (z6 ((ji on may n).getD k ⟨0, 0⟩) may n _ ⟨hi2, hi3⟩) rfl fun aI aJ l P => ?_
 replace hB := Ze hB l
 replace f := l.at f
 replace g := l.at g
 replace ho_hP1_3 := l.ow ho_hP1_3
 replace e := l.mapT e
 replace ho := l.ow ho
 replace h := l.at h
 rw [if_pos hi1] at P
 obtain rfl := P
 refine Zw (.tuple #[.agg #[_, _], .int .i64 _]) rfl <| Zv (dK rfl) <| Zv (dM rfl) <| Zy (dw jj rfl fun Q aK z m i => ?_)
 have ah := ZO z hB
 have ai := dh.neB (b := Q) ho_hP1_3 (Nat.le_of_eq z.symm)
 have R := dh.neB (b := Q) ho (Nat.le_of_eq z.symm)
 have aj := Zn z h.lt
 clear z
 replace hB := Ze hB m
 replace f := m.at f
 replace g := m.at g
 replace ho_hP1_3 := m.ow ho_hP1_3
 replace e := m.mapT e
 replace ho := m.ow ho
 replace h := m.at h
 refine Zy (dg rfl rfl dP rfl i rfl rfl fun aL o ak => ?_)
 replace hB := Zg hB o ah
 replace f := At.grownAt f i o Dd
 replace g := At.grownAt g i o Dd
 replace ho_hP1_3 := dh.grownAtNe ho_hP1_3 ai o
 replace e := dT.grownAt e i o
 replace ho := dh.grownAtNe ho R o
 replace h := At.grownNe h aj o
 replace i := ak
 refine Zi rfl <| cT <| Zr <| Zw (.map (some A)) rfl <| Zv (db rfl dP rfl i) <| Zv (f7 (enc := iN) (encV := Value.bool) (v0 := false) (k := (jM may n ((ji on may n).getD k ⟨0, 0⟩))) rfl rfl ly m9 (fun a => ⟨a, rfl⟩) mP pp rfl e) <| Zv (fG rfl) <| cT <| ZQ rfl (fun p => ?_) fun p => ?_
 refine Zr <| Zw (.map (some A)) rfl <| Zv (db rfl dP rfl i) ?_
 refine gW (dd := none) rfl rfl rfl (fS (enc := iN) (encV := Value.bool) (k := (jM may n ((ji on may n).getD k ⟨0, 0⟩))) (v := true) rfl rfl rfl ly m9 (fun a => ⟨a, rfl⟩) mP e (fun aM q al => ?_))
 replace hB := Zg hB q aa
 replace f := At.grownMap f e q
 replace g := At.grownMap g e q
 replace ho_hP1_3 := dh.grownMap ho_hP1_3 e q
 replace ho := dh.grownMap ho e q
 replace h := At.grownMap h e q
 replace i := At.grownMap i e q
 replace e := al
 rw [jz] at e
 refine cT <| cY <| Zw v0 rfl <| Zv (db rfl dP rfl i) <| Zy (eU (u := .agg #[_, _]) rfl fi jo rfl Dd Dd fun H aN y j ao => ?_)
 have aO := ZO y hB
 have aP := dh.neB (b := H) ho_hP1_3 (Nat.le_of_eq y.symm)
 have aQ := dh.neB (b := H) ho (Nat.le_of_eq y.symm)
 have aR := Zn y h.lt
 have aS := Zn y i.lt
 clear y
 replace hB := Ze hB j
 replace f := j.at f
 replace g := j.at g
 replace ho_hP1_3 := j.ow ho_hP1_3
 replace e := j.mapT e
 replace ho := j.ow ho
 replace h := j.at h
 replace i := j.at i
 refine Zy (gx (v := v0) (v2 := .slice (some ⟨H, 0, none⟩) 1 1) rfl rfl fi jo Dd ho (fm ao rfl) rfl (by have := Below.size hB; omega) (by first | omega | (simp; omega) | (simp only [cV, cW, cX, da, de]; omega)) (by first | omega | (simp; omega) | (simp only [cV, cW, cX, da, de]; omega)) fun S aT r D ap => ?_)
 have aq := eW.app hap ap ho_hP1_3
 replace D := dh.snoc (enc := ib) (x := (jM may n ((ji on may n).getD k ⟨0, 0⟩))) rfl rfl rfl rfl D
 replace hB := ZG hB r ho
 replace f := At.grownOw f ho r Dd
 replace g := At.grownOw g ho r Dd
 replace ho_hP1_3 := dh.grownAp ho_hP1_3 hap r
 replace e := dT.grownOw e ho r
 replace h := At.grownOwNe h O r
 replace i := At.grownOwNe i R r
 clear ho
 refine Zw S rfl <| cT <| M _ _ <| cY <| Zv (dp rfl rfl Om Om) <| Zi rfl <| cT ?_
 exact L _ _ ((k + 1, S)) Za ⟨rfl, rfl, trivial⟩ ⟨hB, f, g, ho_hP1_3, (by first | exact e | (rw [iU, qr (Cc (kk := jM may n ((ji on may n).getD k ⟨0, 0⟩)) p)]; exact e)), aq, (by first | (rw [iU, xE (D7 (kk := jM may n ((ji on may n).getD k ⟨0, 0⟩)) p)]; exact D) | (rw [iU, qr (Cc (kk := jM may n ((ji on may n).getD k ⟨0, 0⟩)) p)]; exact D)), Om, trivial⟩ (by show (ji on may n).length - (k + 1) < (ji on may n).length - k; omega)
 refine c9 <| M _ _ <| cY <| Zv (dp rfl rfl Om Om) <| Zi rfl <| cT ?_
 exact L _ _ ((k + 1, v0)) Za ⟨rfl, rfl, trivial⟩ ⟨hB, f, g, ho_hP1_3, (by first | exact e | (rw [iU, qr (Cc (kk := jM may n ((ji on may n).getD k ⟨0, 0⟩)) p)]; exact e)), hap, (by first | (rw [iU, xE (D7 (kk := jM may n ((ji on may n).getD k ⟨0, 0⟩)) p)]; exact ho) | (rw [iU, qr (Cc (kk := jM may n ((ji on may n).getD k ⟨0, 0⟩)) p)]; exact ho)), Om, trivial⟩ (by show (ji on may n).length - (k + 1) < (ji on may n).length - k; omega)
 refine dt <| ab _ _ <| Zr <| Zw v0 rfl <| Zw v0 rfl <| Zw (.int .i64 0) rfl <| cT <| Zt <| d8 (v := v0) rfl (v1 := .int .i64 0) rfl ⟨hB, ?_⟩
 obtain rfl : k = (ji on may n).length := by omega
 rw [if_pos hok]
 exact ⟨_, rfl, ho⟩
end
section
open Go Go.RowKit
def Ex (l : List Cb) (n : Nat) (but : Int) : Nat → Nat
 | 0 => 0
 | k + 1 => if (k : Int) = but then Ex l n but k else Ex l n but k ||| oQ (l.getD k ⟨0, 0⟩).m ((l.getD k ⟨0, 0⟩).v &&& (l.getD k ⟨0, 0⟩).m) n
theorem kT {l : List Cb} {n : Nat} {but : Int} (hn : n ≤ 8) (p : Nat) : ∀ k, k ≤ l.length → (∀ c, c ∈ l → c.v &&& c.m = c.v) → ((Ex l n but k).testBit p = true ↔ ∃ j, j < k ∧ ¬ (j : Int) = but ∧ p < 2 ^ n ∧ hold (l.getD j ⟨0, 0⟩) p)
 | 0, _, _ => by simp [Ex]
 | k + 1, hk, hv => by
  have ih := kT (but := but) hn p k (by omega) hv
  rw [Ex]
  split
  ·rename_i h
   rw [ih]
   constructor
   ·rintro ⟨j, hj, r⟩; exact ⟨j, by omega, r⟩
   ·rintro ⟨j, hj, h2, r⟩
    rcases Nat.lt_succ_iff_lt_or_eq.1 hj with hj | rfl
    ·exact ⟨j, hj, h2, r⟩
    ·exact absurd h h2
  ·rename_i h
   rw [Nat.testBit_or, Bool.or_eq_true, ih, iV hn, hv _ (dU (by omega)), Bool.and_eq_true, decide_eq_true_eq, decide_eq_true_eq]
   constructor
   ·rintro (⟨j, hj, r⟩ | ⟨h1, h2⟩)
    ·exact ⟨j, by omega, r⟩
    ·exact ⟨k, by omega, h, h1, h2⟩
   ·rintro ⟨j, hj, h2, h3, h4⟩
    rcases Nat.lt_succ_iff_lt_or_eq.1 hj with hj | rfl
    ·exact .inl ⟨j, hj, h2, h3, h4⟩
    ·exact .inr ⟨h3, h4⟩
section
variable {on m : Nat} {n : Int}
theorem I5 (h : yW on m n = true) : ∃ k : Nat, n = (k : Int) ∧ k ≤ 8 ∧ nc k on m 0 := by
 obtain ⟨h0, h8⟩ := ko (jX.1 h).1
 obtain ⟨k, rfl⟩ := Int.eq_ofNat_of_zero_le h0
 obtain ⟨h1, h2⟩ := zp h
 exact ⟨k, rfl, h1, h2⟩
theorem Nv (h : yW on m n = true) : ∀ c, c ∈ ji on m n → c.v &&& c.m = c.v := fun c hc => (vq h hc).2.2.2
theorem Ps (h : yW on m n = true) : ep on (Ex (ji on m n) n.toNat (-1) (ji on m n).length) = true := by
 have hv := Nv h
 obtain ⟨k, rfl, h8, hg⟩ := I5 h
 rw [ea]
 intro p hp ho
 obtain ⟨c, hc, hh⟩ := (kA h8 (k + 1) on m 0 hg (by omega)).2 p (hg.out p hp (hg.sub p hp ho)) ho
 obtain ⟨j, hj, rfl⟩ := fh (d := ⟨0, 0⟩) hc
 exact (kT h8 p _ (Nat.le_refl _) hv).2 ⟨j, hj, by omega, hg.out p hp (hg.sub p hp ho), hh⟩
abbrev CN (on m : Nat) (n : Int) : List Cb := Ea m n (ji on m n)
theorem Na (h : yW on m n = true) : (CN on m n).length ≤ 19683 := Nat.le_trans (p6 _ _ _ _) (Cm (ko (jX.1 h).1).2)
theorem tM (h : yW on m n = true) {c : Cb} (hc : c ∈ CN on m n) : gS c.m c.v m n = true := by
 obtain ⟨j, hj, rfl⟩ := (pK _).1 hc
 exact (ri (vq h (dU hj)).1).1
theorem Qz (h : yW on m n = true) : ∀ c, c ∈ CN on m n → c.m < 256 ∧ c.v < 256 := fun c hc => by
 have := js (km (tM h hc))
 have h2 := eT (ko (jX.1 h).1).2
 omega
theorem Nx (h : yW on m n = true) : ∀ c, c ∈ CN on m n → c.v &&& c.m = c.v := fun c hc => (dV.1 (km (tM h hc))).2.2.2
theorem N5 (h : yW on m n = true) : ep on (Ex (CN on m n) n.toNat (-1) (CN on m n).length) = true := by
 have hv := Nx h
 have h1 := Ps h
 have hcv := Nv h
 have hgp : ∀ j, j < (ji on m n).length → ∃ k, k < (CN on m n).length ∧ (CN on m n).getD k ⟨0, 0⟩ = jM m n ((ji on m n).getD j ⟨0, 0⟩) := fun j hj => fh ((pK _).2 ⟨j, hj, rfl⟩)
 have hgr : ∀ j, j < (ji on m n).length → iH (jM m n ((ji on m n).getD j ⟨0, 0⟩)) ((ji on m n).getD j ⟨0, 0⟩) = true := fun j hj => (ri (vq h (dU hj)).1).2
 obtain ⟨q, rfl, h8, hg⟩ := I5 h
 rw [ea]
 intro p hp ho
 obtain ⟨j, hj, _, h2, h3⟩ := (kT h8 p _ (Nat.le_refl _) hcv).1 (ea.1 h1 p hp ho)
 obtain ⟨k, hk, he⟩ := hgp j hj
 refine (kT h8 p _ (Nat.le_refl _) hv).2 ⟨k, hk, by omega, h2, ?_⟩
 have := lD (p := p) (show (jM m q ((ji on m q).getD j ⟨0, 0⟩)).v &&& (jM m q ((ji on m q).getD j ⟨0, 0⟩)).m = _ by rw [← he]; exact hv _ (dU hk)) (hgr j hj) h3
 rw [he]
 exact this
end
end
section
open Go Go.RowKit
def se (S : Sp) (o : Nat) : List Cb := Ea (iM S o) S.n (ji (AO S o) (iM S o) S.n)
def rj (S : Sp) (o i : Nat) : Rw := ua S ⟨(se S o).getD i ⟨0, 0⟩, 2 ^ o⟩
def FN (S : Sp) (o : Nat) (acc : List Rw) : Nat → List Rw
 | 0 => acc
 | i + 1 => iJ (FN S o acc i) (rj S o i)
def DY (S : Sp) : Nat → List Rw
 | 0 => []
 | o + 1 => FN S o (DY S o) (se S o).length
def lh (S : Sp) : List Rw := DY S S.on.length
theorem qe {S : Sp} (hr : dL S = true) {o : Nat} (ho : o < S.on.length) : yW (AO S o) (iM S o) S.n = true := by
 obtain ⟨h0, h8, h1, h4, h5, hin⟩ := dX.1 hr
 refine jX.2 ⟨?_, (hin o ho).1⟩
 unfold uP
 rw [(hin o ho).2, decide_eq_true h0, decide_eq_true h8]
 rfl
theorem KI {S : Sp} (hr : dL S = true) {o : Nat} (ho : o < S.on.length) : (se S o).length ≤ 19683 := Na (qe hr ho)
theorem EI {S : Sp} (hr : dL S = true) {o i : Nat} (ho : o < S.on.length) (hi : i < (se S o).length) : ((se S o).getD i ⟨0, 0⟩).m < 256 ∧ ((se S o).getD i ⟨0, 0⟩).v < 256 := Qz (qe hr ho) _ (dU hi)
theorem wX {S : Sp} (hr : dL S = true) {o i : Nat} (ho : o < S.on.length) (hi : i < (se S o).length) : lY S ⟨(se S o).getD i ⟨0, 0⟩, 2 ^ o⟩ = true := by
 obtain ⟨h0, h8, h1, h4, h5, hin⟩ := dX.1 hr
 refine fz.2 ⟨hr, Nat.two_pow_pos o, fun j hj => ?_⟩
 have hj' : (2 ^ o).testBit j = true := hj
 rw [Nat.testBit_two_pow, decide_eq_true_eq] at hj'
 subst hj'
 exact ⟨by omega, (fR.1 (tM (qe hr ho) (dU hi))).1⟩
theorem Rd {S : Sp} (hr : dL S = true) {o i : Nat} (ho : o < S.on.length) (hi : i < (se S o).length) : (rj S o i).c.m < 256 ∧ (rj S o i).c.v < 256 ∧ (rj S o i).o < 256 := by
 obtain ⟨h0, h8, h1, h4, h5, hin⟩ := dX.1 hr
 obtain ⟨g1, g2⟩ := su (S := S) (x := ⟨(se S o).getD i ⟨0, 0⟩, 2 ^ o⟩) (EI hr ho hi) S.n.toNat
 refine ⟨g1, g2, ?_⟩
 have := (lS (fe.1 (nq (wX hr ho hi)).1).1).2
 show (ua S ⟨(se S o).getD i ⟨0, 0⟩, 2 ^ o⟩).o < 256
 omega
theorem zD (S : Sp) (o : Nat) (acc : List Rw) : ∀ i, (FN S o acc i).length ≤ acc.length + i
 | 0 => Nat.le_refl _
 | i + 1 => Nat.le_trans (qn _ _) (by have := zD S o acc i; omega)
theorem Au {S : Sp} (hr : dL S = true) : ∀ o, o ≤ S.on.length → (DY S o).length ≤ o * 19683
 | 0, _ => Nat.le_refl _
 | o + 1, ho => by
  have h1 := Au hr o (by omega)
  have h2 := zD S o (DY S o) (se S o).length
  have h3 := KI hr (show o < S.on.length by omega)
  rw [DY]
  omega
theorem Fc {S : Sp} {o : Nat} {acc : List Rw} {x : Rw} : ∀ i, x ∈ FN S o acc i ↔ x ∈ acc ∨ ∃ q, q < i ∧ x = rj S o q
 | 0 => by simp [FN]
 | i + 1 => by
  rw [FN, gv, Fc i]
  constructor
  ·rintro ((h | ⟨q, hq, h⟩) | h)
   ·exact .inl h
   ·exact .inr ⟨q, by omega, h⟩
   ·exact .inr ⟨i, by omega, h⟩
  ·rintro (h | ⟨q, hq, h⟩)
   ·exact .inl (.inl h)
   ·rcases Nat.lt_succ_iff_lt_or_eq.1 hq with hq | rfl
    ·exact .inl (.inr ⟨q, hq, h⟩)
    ·exact .inr h
theorem uL {S : Sp} {x : Rw} : ∀ o, x ∈ DY S o ↔ ∃ q, q < o ∧ ∃ i, i < (se S q).length ∧ x = rj S q i
 | 0 => by simp [DY]
 | o + 1 => by
  rw [DY, Fc, uL o]
  constructor
  ·rintro (⟨q, hq, h⟩ | h)
   ·exact ⟨q, by omega, h⟩
   ·exact ⟨o, by omega, h⟩
  ·rintro ⟨q, hq, h⟩
   rcases Nat.lt_succ_iff_lt_or_eq.1 hq with hq | rfl
   ·exact .inl ⟨q, hq, h⟩
   ·exact .inr h
theorem Ha {S : Sp} (hr : dL S = true) : (lh S).length ≤ 78732 := by
 have h := Au hr _ (Nat.le_refl _)
 obtain ⟨h0, h8, h1, h4, h5, hin⟩ := dX.1 hr
 unfold lh
 omega
theorem t0 {S : Sp} (hr : dL S = true) {x : Rw} (hx : x ∈ lh S) : mS S x = true := by
 obtain ⟨q, hq, i, hi, rfl⟩ := (uL _).1 hx
 exact (nq (wX hr hq hi)).1
theorem Lz {S : Sp} (hr : dL S = true) : gH (lh S) := fun x hx => by
 obtain ⟨q, hq, i, hi, rfl⟩ := (uL _).1 hx
 exact Rd hr hq hi
theorem Gs {S : Sp} (hr : dL S = true) : jy S (lh S) = true := by
 obtain ⟨h0, h8, h1, h4, h5, hin⟩ := dX.1 hr
 have hm : oX S (lh S) = true := vX.2 fun x hx => by
  have hi := (fe.1 (t0 hr hx)).1
  exact jn.2 ⟨fk hi, (fz.1 hi).2.1, h5 ▸ (lS hi).1⟩
 refine gY.2 ⟨hr, hm, fun o ho => (mV hr hm ho).2 fun p hp => ⟨fun hb => ?_, fun hb => ?_⟩⟩
 ·have hok := qe hr ho
  have hp8 : p < 256 := by have := eT h8; omega
  obtain ⟨i, hi, _, _, hh⟩ := (kT (n := S.n.toNat) (by omega) p _ (Nat.le_refl _) (Nx hok)).1 (ea.1 (N5 hok) p hp8 hb)
  obtain ⟨hpr, hho⟩ := nq (wX hr ho (i := i) hi)
  obtain ⟨g1, g2⟩ := kg.1 hho
  have hv : (rj S o i).c.v &&& (rj S o i).c.m = (rj S o i).c.v := (dV.1 (fk (fe.1 hpr).1)).2.2.2
  unfold AE
  rw [List.any_eq_true]
  refine ⟨rj S o i, (uL _).2 ⟨o, ho, i, hi, rfl⟩, ?_⟩
  rw [Bool.and_eq_true]
  refine ⟨g2 o (by show (2 ^ o).testBit o = true; rw [Nat.testBit_two_pow]; simp), ?_⟩
  have := lD (p := p) hv g1 hh
  unfold mI
  rw [decide_eq_true_eq, hv]
  exact this
 ·unfold AE at hb
  rw [List.any_eq_true] at hb
  obtain ⟨x, hx, h2⟩ := hb
  rw [Bool.and_eq_true] at h2
  have hi := (fe.1 (t0 hr hx)).1
  have hv := (dV.1 (fk hi)).2.2.2
  have h3 := h2.2
  unfold mI at h3
  rw [decide_eq_true_eq, hv] at h3
  exact (gn.1 ((fz.1 hi).2.2 o h2.1).2).2 p hp h3
theorem vy {ml : List Rw} {kk : Rw} (h : (!(ic (fF ml) ⟨⟨kk.c.m, kk.c.v⟩, kk.o⟩).getD false) = true) : kk ∉ ml := by
 rw [lI] at h
 simpa using h
theorem pY {ml : List Rw} {kk : Rw} (h : (!(ic (fF ml) ⟨⟨kk.c.m, kk.c.v⟩, kk.o⟩).getD false) = false) : kk ∈ ml := by
 rw [lI] at h
 simpa using h
theorem uK {S : Sp} {o i : Nat} {acc : List Rw} (h : rj S o i ∉ FN S o acc i) : FN S o acc i ++ [rj S o i] = FN S o acc (i + 1) := (xE h).symm
theorem nJ {S : Sp} {o i : Nat} {acc : List Rw} (h : rj S o i ∈ FN S o acc i) : FN S o acc i = FN S o acc (i + 1) := (qr h).symm
end
section
open Go Go.RowKit
theorem Ol80_0 {p : Prop} (h : p := by first | omega | (simp only [cV, cW, cX, da, de]; omega)) : p := h
theorem Pr : dD Tryz.prog 46 = true := by kernel_rfl
theorem Ig : dD Tryz.prog 47 = true := by kernel_rfl
theorem uF : l6 Tryz.prog 86 = some (42, 4) := by kernel_rfl
theorem Le {f : Nat → Value} {w : World} {d : Option Nat} {ty t2 : TypeId} {ps : String} {af : Array Edge} {g : Option (Nat × Bool)} {x y : Operand} {a0 a1 a2 b0 b1 b2 : Int} (hx : dQ f x = .agg #[.int .u8 a0, .int .u8 a1, .int .u8 a2]) (hy : dQ f y = .agg #[.int .u8 b0, .int .u8 b1, .int .u8 b2]) :
    (execOp (dQ f) ⟨d, .binOp .eql 42 x y t2, ty, ps, af, g⟩).run Tryz.prog w = .ok (.value (.bool (decide ((a0 = b0 ∧ a1 = b1 ∧ a2 = b2))))) w := by
  have hg : Tryz.prog.eqGuardType Tryz.prog.depth 42 = false := by kernel_rfl
  have hp42 : Tryz.prog.stoodInHeld 42 = false := by kernel_rfl
  have hu42 : Tryz.prog.underlying 42 = some (.struct (Tryz.prog.fieldsOf 42)) := by kernel_rfl
  have hp40 : Tryz.prog.stoodInHeld 40 = false := by kernel_rfl
  have hu40 : Tryz.prog.underlying 40 = some (.struct (Tryz.prog.fieldsOf 40)) := by kernel_rfl
  obtain ⟨j40, hj40, hs40⟩ := Option.map_eq_some_iff.1 (show (Tryz.prog.info? 40).map (·.size) = some 2 by kernel_rfl)
  simp only [execOp, hx, hy, Sem.run_bind, run_eqGuard_agg _ _ _ _ _ _ _ hg, Result.andThen_ok, run_eql_struct, run_equalIn_agg _ 9999 42 _ _ hu42 hp42]
  simp only [Program.fieldsOf, Tryz.underlying42]
  simp [Op.eqFields, part, isAgg, run_equalIn_int _ 9998 5 _ _ _ _ Tryz.underlying5, run_underlying Tryz.underlying5, run_equalIn_agg _ 9998 40 _ _ hu40 hp40, Program.fieldsOf, Tryz.underlying40, run_equalIn_int _ 9997 5 _ _ _ _ Tryz.underlying5, sizeOf, typeInfo, hj40, hs40, run_underlying Tryz.underlying40]
  by_cases q0 : a0 = b0 <;> by_cases q1 : a1 = b1 <;> by_cases q2 : a2 = b2 <;> simp [q0, q1, q2]
theorem sQ : pd Tryz.prog 42 (fun v => ∃ a : Rw, v = qO a) := by
  refine ol Tryz.underlying42 ?_ ?_ ?_ ?_
  · rintro w _ _ ⟨a, rfl⟩ ⟨c, rfl⟩
    have hg : Tryz.prog.eqGuardType Tryz.prog.depth 42 = false := by kernel_rfl
    exact ⟨_, qy hg (Le rfl rfl), by rw [decide_eq_true_eq]; constructor <;> intro h <;> simpa [qO] using h⟩
  · rintro _ _ ⟨a, rfl⟩ ⟨c, rfl⟩
    exact .inl rfl
  · rintro w em _ ⟨a, rfl⟩
    have h2 : ∀ k, (Instr.checkKey em (k + 1 + 1 + 1) 42 (qO a)).run Tryz.prog w = .ok () w := fun k => by
      simp [qO, Instr.checkKey, part, isAgg, run_underlying Tryz.underlying42, run_underlying Tryz.underlying40, run_underlying Tryz.underlying5]
    exact h2 9997
  · rintro _ ⟨a, rfl⟩
    simp [qO, Instr.sameBits]
theorem AK (S : Sp) (onV mayV : Value) (w : World) (hon : dO fQ 4 w onV S.on) (hmay : dO fQ 4 w mayV S.may) :
    Fn Tryz.prog 21 #[.agg #[.int .i64 S.n, onV, mayV]] w fun v w' => if dL S = true then ∃ x, v = .tuple #[x, .int .i64 0] ∧ dh fI 3 42 w' w.heap.size x (lh S) else v = .tuple #[.slice none 0 0, .int .i64 1] := by
 refine dr (n := 66) Tryz.func21 rfl rfl (Nat.le_of_ble_eq_true rfl) ?_
 have hB : Below w.heap.size w w := Below.refl _ _
 refine Zr <| Zy (dW (c := #[_, _, _]) rfl rfl fun aj W3 ak av f => ?_)
 have aY := ZO ak hB
 clear ak
 replace hB := Ze hB av
 refine Zw (.slice none 0 0) rfl <| Zw (.int .i64 0) rfl <| cT <| cZ fun K6 aw => Zr <| Zv (db rfl eJ rfl f) <| ZC (vs := [.agg #[_, _, _]]) pQ (im S _ _  _ (Below.slT hB hon) (Below.slT hB hmay) ) rfl fun aZ a0 al ax => ?_
 replace hB := Ze hB al
 replace f := al.at f
 obtain rfl := ax
 refine Zv (fG rfl) <| cT <| ZQ rfl (fun af => ?_) fun af => ?_
 refine Zr <| Zw (.slice none 0 0) rfl <| Zw (.int .i64 1) rfl <| cT <| Zt <| d8 (v := .slice none 0 0) rfl (v1 := .int .i64 1) rfl ⟨hB, ?_⟩
 rw [if_neg (by rw [show dL S = false from iI af]; decide)]
 refine c9 <| aw _ _ ?_
 have hr : dL S = true := ig af
 obtain ⟨h0, h8, h1, h4, h5, hin⟩ := dX.1 hr
 refine Zr <| Zy (gN (enc := qO) (encV := Value.bool) fun E a1 ao ap d => ?_)
 have aq := ZO ao hB
 clear ao
 replace hB := Ze hB ap
 replace f := ap.at f
 replace d : dT qO Value.bool _ _ (fF []) := d
 refine Zw (.map (some E)) rfl <| cT <| Zr <| Zw (.slice none 0 0) rfl <| cT <| cZ fun a2 ay => Zr <| Zf rfl fE <| ZL onV rfl eB f rfl <| Zv (dB (v := onV) rfl (Below.slT hB hon) d5) <| Zw (.int .i64 0) rfl <| cT <| c7 ?_
 refine dz (σ := (Nat) × (Value)) [5, 6, 7, 8, 9, 11, 12, 13, 21, 22, 23, 24, 25, 26, 27, 28, 29, 30, 31, 32, 33, 34, 35, 36, 37, 38, 39, 40, 41, 42, 43, 44, 45, 46, 47, 48, 49, 50, 51, 52, 53, 54, 55, 56, 57, 58, 59, 60, 61, 62, 63, 64] (fun (o, v0) => [(21, .int .i64 (o : Int)), (5, v0)]) (fun sg W => match sg with | (o, v0) => (Below w.heap.size w W) ∧ (At W aj _ 24) ∧ (dT qO Value.bool W E (fF (DY S o))) ∧ (dh fI 3 42 W w.heap.size v0 (DY S o)) ∧ (o ≤ S.on.length) ∧ (True)) (fun (o, v0) => S.on.length - o) ((0, .slice none 0 0)) ⟨rfl, rfl, trivial⟩ ⟨hB, f, d, dh.nil, (Nat.zero_le _), trivial⟩ ?_
 clear hB f d
 rintro ⟨o, v0⟩ a3 a4 ⟨hB, f, d, ho, hoo, _⟩ a5 az
 refine Zr <| Zv (dN rfl rfl) <| cT <| cZ fun a6 aA => ZQ rfl (fun aB => ?_) fun aB => ?_
 refine c9 <| aA _ _ <| cZ fun a7 aC => c7 ?_
 have O : o < S.on.length := by omega
 have h7 := Ap (show o < 8 by omega)
 have hgl := KI hr O
 have hpl := Au hr o (by omega)
 refine Zr <| Zi rfl <| Zv (dI (v := onV) rfl (Below.slT hB hon) rfl d5 Om Ol80_0) <| Zv (fo rfl df (dO.cell (Below.slT hB hon) dF 0 Om Ol80_0 0 rfl) (dO.cell (Below.slT hB hon) dF 0 Om Ol80_0 1 rfl) (dO.cell (Below.slT hB hon) dF 0 Om Ol80_0 2 rfl) (dO.cell (Below.slT hB hon) dF 0 Om Ol80_0 3 rfl)) <| Zy (dw eR rfl fun ar aD au X g => ?_)
 have aE := ZO au hB
 clear au
 replace hB := Ze hB X
 replace f := X.at f
 replace d := X.mapT d
 replace ho := X.ow ho
 replace g : At aD ar #[wv 0 0, wv 0 1, wv 0 2, wv 0 3] 49 := g
 refine Zi rfl <| Zy (dg rfl rfl df rfl g rfl rfl fun a8 Y aF => ?_)
 replace hB := Zg hB Y aE
 replace f := At.grownAt f g Y Dd
 replace d := dT.grownAt d g Y
 replace ho := dh.grownAt ho g Y Dd
 replace g := aF
 refine cT <| Zd d9 fun aG P => ?_
 replace hB := Ze hB P
 replace f := P.at f
 replace d := P.mapT d
 replace ho := P.ow ho
 replace g := P.at g
 have hS := d9.refl aG
 refine Tk 0 rfl (fun _ hq => db rfl df rfl (hq.at g)) hS <| Tf 1 rfl rfl fO hS <| Tk 2 rfl (fun _ hq => dk (v := mayV) rfl eB (At.cell (hq.at f) rfl)) hS <| Ti 3 rfl rfl hS <| Tk 4 rfl (fun _ hq => dI (v := mayV) rfl (hq.slT (Below.slT hB hmay)) rfl d5 Om Ol80_0) hS <| Tk 5 rfl (fun _ hq => fo rfl df (dO.cell (hq.slT (Below.slT hB hmay)) dF 0 Om Ol80_0 0 rfl) (dO.cell (hq.slT (Below.slT hB hmay)) dF 0 Om Ol80_0 1 rfl) (dO.cell (hq.slT (Below.slT hB hmay)) dF 0 Om Ol80_0 2 rfl) (dO.cell (hq.slT (Below.slT hB hmay)) dF 0 Om Ol80_0 3 rfl)) hS <| Tf 6 rfl rfl fD hS <| Tk 7 rfl (fun _ hq => dk (v := .int .i64 _) rfl dC (At.cell (hq.at f) rfl)) hS <| To 8 rfl (TC (vs := [.agg #[_, _, _, _], .agg #[_, _, _, _], .int .i64 _]) Pr (Ak (AO S o) (iM S o) S.n _) rfl fun a9 ba F aH => ⟨.inl (hS.trans F), ?_⟩)
 have aI := (Below.size hB)
 replace hB := Ze hB F
 replace f := F.at f
 replace d := F.mapT d
 replace ho := F.ow ho
 replace g := F.at g
 replace hS := hS.trans F
 obtain ⟨x_hP8_8, er_hP8_8, l_hP8_8, rfl, ho_hP8_8, hc_hP8_8⟩ := EE aH
 replace ho_hP8_8 := dh.mono ho_hP8_8 aI
 refine Tw 9 (.tuple #[x_hP8_8, .int .i64 _]) rfl rfl hS <| Tk 10 rfl (fun _ _ => dK rfl) hS <| Tk 11 rfl (fun _ _ => dM rfl) hS <| Tw 12 x_hP8_8 rfl rfl hS <| Ti 13 rfl rfl hS <| Td ?_
 obtain ⟨_, hleq⟩ := IG hc_hP8_8 (by intro h; exact h (by rcases hc_hP8_8 with ⟨_, h, _⟩ | ⟨h, _⟩; exact h; rw [qe hr O] at h; cases h))
 have hleq2 : l_hP8_8 = se S o := hleq
 subst hleq2
 refine Zr <| Zw x_hP8_8 rfl <| Zv (dB (v := x_hP8_8) rfl ho_hP8_8.sl fi) <| Zw (.int .i64 0) rfl <| cT <| c7 ?_
 refine dz (σ := (Nat) × (Value)) [5, 11, 12, 13, 40, 41, 42, 43, 44, 45, 46, 47, 48, 49, 50, 51, 52, 53, 54, 55, 56, 57, 58, 59, 60, 61, 62, 63] (fun (i, v1) => [(40, .int .i64 (i : Int)), (5, v1)]) (fun sg W => match sg with | (i, v1) => (Below w.heap.size w W) ∧ (At W aj _ 24) ∧ (At W ar _ 49) ∧ (dh ib 2 40 W w.heap.size x_hP8_8 _) ∧ (dT qO Value.bool W E (fF (FN S o (DY S o) i))) ∧ (dh fI 3 42 W w.heap.size v1 (FN S o (DY S o) i)) ∧ (i ≤ (se S o).length) ∧ (True)) (fun (i, v1) => (se S o).length - i) ((0, v0)) ⟨rfl, rfl, trivial⟩ ⟨hB, f, g, ho_hP8_8, d, (by exact ho), (Nat.zero_le _), trivial⟩ ?_
 clear hB f d ho g ho_hP8_8
 rintro ⟨i, v1⟩ bb bc ⟨hB, f, g, ho_hP8_8, d, hoo2, hi, _⟩ bd Z
 refine Zr <| Zv (dN rfl rfl) <| cT <| cZ fun bf aJ => ZQ rfl (fun aK => ?_) fun aK => ?_
 refine c9 <| aJ _ _ <| cZ fun bg aa => c7 ?_
 have hi2 : i < (se S o).length := by omega
 have hgg := EI hr O hi2
 have hcl := zD S o (DY S o) i
 refine Zr <| Zv (dI (v := x_hP8_8) rfl ho_hP8_8.sl rfl fi Om Ol80_0) <| Zv (g7 rfl dP (dO.cell ho_hP8_8.sl gw ⟨0, 0⟩ Om Ol80_0 0 rfl) (dO.cell ho_hP8_8.sl gw ⟨0, 0⟩ Om Ol80_0 1 rfl)) <| Zy (dw jj rfl fun aL bh ag M p => ?_)
 have aM := ZO ag hB
 have aN := dh.neB (b := aL) ho_hP8_8 (Nat.le_of_eq ag.symm)
 clear ag
 replace hB := Ze hB M
 replace f := M.at f
 replace g := M.at g
 replace ho_hP8_8 := M.ow ho_hP8_8
 replace d := M.mapT d
 replace hoo2 := M.ow hoo2
 refine Zy (dg rfl rfl dP rfl p rfl rfl fun bi N aO => ?_)
 replace hB := Zg hB N aM
 replace f := At.grownAt f p N Dd
 replace g := At.grownAt g p N Dd
 replace ho_hP8_8 := dh.grownAtNe ho_hP8_8 aN N
 replace d := dT.grownAt d p N
 replace hoo2 := dh.grownAt hoo2 p N Dd
 replace p := aO
 refine cT <| Zd d9 fun aP G => ?_
 replace hB := Ze hB G
 replace f := G.at f
 replace g := G.at g
 replace ho_hP8_8 := G.ow ho_hP8_8
 replace d := G.mapT d
 replace hoo2 := G.ow hoo2
 replace p := G.at p
 have hS := d9.refl aP
 refine Tk 0 rfl (fun _ hq => db rfl eJ rfl (hq.at f)) hS <| Tk 1 rfl (fun _ hq => db rfl dP rfl (hq.at p)) hS <| Ti 2 rfl rfl hS <| Tk 3 rfl (fun _ _ => jP (m := 1) rfl rfl Om (by simp only [IntKind.bits]; omega) (by simp only [d7, Int.toNat_natCast, Nat.one_mul]; omega)) hS <| Tk 4 rfl (fun _ _ => jt (h0 := rfl) (h1 := rfl) (k1 := rfl) (c1_0 := .int .u8 _)) hS ?_
 refine zI 5 9 (by kernel_rfl) rfl rfl rfl rfl rfl rfl rfl rfl (Yd.call (vj Ig (v0 := .agg #[_, _, _]) rfl (v1 := .agg #[_, _, _]) rfl) (sK S _ _ ⟨((se S o).getD i ⟨0, 0⟩), 1 * 2 ^ o⟩ _ (Below.slT hB hon) (Below.slT hB hmay) ⟨hgg.1, hgg.2, (by show 1 * 2 ^ o < 256; omega)⟩) (fun aQ bj s Q => ⟨.inl (hS.trans s), ?_⟩)) (dw kL rfl (fun H bk ab t l => ⟨.inl (hS.trans t), ?_⟩))
 replace hB := Ze hB s
 replace f := s.at f
 replace g := s.at g
 replace ho_hP8_8 := s.ow ho_hP8_8
 replace d := s.mapT d
 replace hoo2 := s.ow hoo2
 replace p := s.at p
 replace hS := hS.trans s
 rw [Nat.one_mul, if_pos (wX hr O hi2)] at Q
 obtain rfl := Q
 refine Tw 6 (.tuple #[.agg #[_, _, _], .int .i64 _]) rfl rfl hS <| Tk 7 rfl (fun _ _ => dK rfl) hS <| Tk 8 rfl (fun _ _ => dM rfl) hS <| To 9 rfl (dw kL rfl fun H bl ac y l => ⟨.inl (hS.trans y), ?_⟩)
 have ah := ZO ac hB
 have R := Nat.le_trans (d9.size hS) (Nat.le_of_eq ac.symm)
 have T := dh.neB (b := H) hoo2 (Nat.le_of_eq ac.symm)
 clear ac
 replace hB := Ze hB y
 replace f := y.at f
 replace g := y.at g
 replace ho_hP8_8 := y.ow ho_hP8_8
 replace d := y.mapT d
 replace hoo2 := y.ow hoo2
 replace p := y.at p
 replace hS := hS.trans y
 refine To 10 rfl (dg rfl rfl eq rfl l rfl rfl fun bm z aR => ⟨.inl (du hS z (Nat.le_refl _) (fun j hj => by have e : H = j := Option.some.inj hj; rw [← e]; exact R)), ?_⟩)
 replace hS : d9 _ _ := du hS z (Nat.le_refl _) (fun j hj => by have e : H = j := Option.some.inj hj; rw [← e]; exact R)
 replace hB := Zg hB z ah
 replace f := At.grownAt f l z Dd
 replace g := At.grownAt g l z Dd
 replace ho_hP8_8 := dh.grownAt ho_hP8_8 l z Dd
 replace d := dT.grownAt d l z
 replace hoo2 := dh.grownAtNe hoo2 T z
 replace p := At.grownAt p l z Dd
 replace l := aR
 refine Ti 11 rfl rfl hS <| Td <| Zr <| Zw (.map (some E)) rfl <| Zv (db rfl eq rfl l) <| Zv (f7 (enc := qO) (encV := Value.bool) (v0 := false) (k := (rj S o i)) rfl rfl uF sQ (fun a => ⟨a, rfl⟩) ss pp rfl d) <| Zv (fG rfl) <| cT <| ZQ rfl (fun q => ?_) fun q => ?_
 refine Zr <| Zw (.map (some E)) rfl <| Zv (db rfl eq rfl l) ?_
 refine gW (dd := none) rfl rfl rfl (fS (enc := qO) (encV := Value.bool) (k := (rj S o i)) (v := true) rfl rfl rfl uF sQ (fun a => ⟨a, rfl⟩) ss d (fun bn I aS => ?_))
 replace hB := Zg hB I aq
 replace f := At.grownMap f d I
 replace g := At.grownMap g d I
 replace ho_hP8_8 := dh.grownMap ho_hP8_8 d I
 replace hoo2 := dh.grownMap hoo2 d I
 replace p := At.grownMap p d I
 replace l := At.grownMap l d I
 replace d := aS
 rw [jz] at d
 refine cT <| cY <| Zw v1 rfl <| Zv (db rfl eq rfl l) <| Zy (eU (u := .agg #[_, _, _]) rfl dR fN rfl Dd Dd fun U bo ad C ai => ?_)
 have aT := ZO ad hB
 have aU := dh.neB (b := U) hoo2 (Nat.le_of_eq ad.symm)
 have aV := Zn ad l.lt
 clear ad
 replace hB := Ze hB C
 replace f := C.at f
 replace g := C.at g
 replace ho_hP8_8 := C.ow ho_hP8_8
 replace d := C.mapT d
 replace hoo2 := C.ow hoo2
 replace p := C.at p
 replace l := C.at l
 refine Zy (eC (v := v1) (v2 := .slice (some ⟨U, 0, none⟩) 1 1) rfl rfl dR fN Dd hoo2 (fm ai rfl) rfl (by have := Below.size hB; omega) (by first | omega | (simp; omega) | (simp only [cV, cW, cX, da, de]; omega)) (by first | omega | (simp; omega) | (simp only [cV, cW, cX, da, de]; omega)) fun V bp J A => ?_)
 replace A := dh.snoc (enc := fI) (x := (rj S o i)) rfl rfl rfl rfl A
 replace hB := ZG hB J hoo2
 replace f := At.grownOw f hoo2 J Dd
 replace g := At.grownOw g hoo2 J Dd
 replace ho_hP8_8 := dh.grownOw ho_hP8_8 hoo2 J Dd
 replace d := dT.grownOw d hoo2 J
 replace p := At.grownOw p hoo2 J Dd
 replace l := At.grownOwNe l T J
 clear hoo2
 refine Zw V rfl <| cT <| aa _ _ <| cY <| Zv (dp rfl rfl Om Om) <| Zi rfl <| cT ?_
 exact Z _ _ ((i + 1, V)) Za ⟨rfl, rfl, trivial⟩ ⟨hB, f, g, ho_hP8_8, (by first | exact d | (rw [← nJ (pY (kk := rj S o i) q)]; exact d)), (by first | (rw [← uK (vy (kk := rj S o i) q)]; exact A) | (rw [← nJ (pY (kk := rj S o i) q)]; exact A)), Om, trivial⟩ (by show (se S o).length - (i + 1) < (se S o).length - i; omega)
 refine c9 <| aa _ _ <| cY <| Zv (dp rfl rfl Om Om) <| Zi rfl <| cT ?_
 exact Z _ _ ((i + 1, v1)) Za ⟨rfl, rfl, trivial⟩ ⟨hB, f, g, ho_hP8_8, (by first | exact d | (rw [← nJ (pY (kk := rj S o i) q)]; exact d)), (by first | (rw [← uK (vy (kk := rj S o i) q)]; exact hoo2) | (rw [← nJ (pY (kk := rj S o i) q)]; exact hoo2)), Om, trivial⟩ (by show (se S o).length - (i + 1) < (se S o).length - i; omega)
 have ah := ZO ab hB
 have R := Nat.le_trans (d9.size hS) (Nat.le_of_eq ab.symm)
 have T := dh.neB (b := H) hoo2 (Nat.le_of_eq ab.symm)
 clear ab
 replace hB := Ze hB t
 replace f := t.at f
 replace g := t.at g
 replace ho_hP8_8 := t.ow ho_hP8_8
 replace d := t.mapT d
 replace hoo2 := t.ow hoo2
 replace p := t.at p
 replace hS := hS.trans t
 refine To 5 rfl (TC (vs := [.agg #[_, _, _], .agg #[_, _, _]]) Ig (sK S _ _ ⟨((se S o).getD i ⟨0, 0⟩), 1 * 2 ^ o⟩ _ (Below.slT hB hon) (Below.slT hB hmay) ⟨hgg.1, hgg.2, (by show 1 * 2 ^ o < 256; omega)⟩) rfl fun aQ bq r Q => ⟨.inl (hS.trans r), ?_⟩)
 replace hB := Ze hB r
 replace f := r.at f
 replace g := r.at g
 replace ho_hP8_8 := r.ow ho_hP8_8
 replace d := r.mapT d
 replace hoo2 := r.ow hoo2
 replace p := r.at p
 replace l := r.at l
 replace hS := hS.trans r
 rw [Nat.one_mul, if_pos (wX hr O hi2)] at Q
 obtain rfl := Q
 refine Tw 6 (.tuple #[.agg #[_, _, _], .int .i64 _]) rfl rfl hS <| Tk 7 rfl (fun _ _ => dK rfl) hS <| Tk 8 rfl (fun _ _ => dM rfl) hS <| To 10 rfl (dg rfl rfl eq rfl l rfl rfl fun br B aW => ⟨.inl (du hS B (Nat.le_refl _) (fun j hj => by have e : H = j := Option.some.inj hj; rw [← e]; exact R)), ?_⟩)
 replace hS : d9 _ _ := du hS B (Nat.le_refl _) (fun j hj => by have e : H = j := Option.some.inj hj; rw [← e]; exact R)
 replace hB := Zg hB B ah
 replace f := At.grownAt f l B Dd
 replace g := At.grownAt g l B Dd
 replace ho_hP8_8 := dh.grownAt ho_hP8_8 l B Dd
 replace d := dT.grownAt d l B
 replace hoo2 := dh.grownAtNe hoo2 T B
 replace p := At.grownAt p l B Dd
 replace l := aW
 refine Ti 11 rfl rfl hS <| Td <| Zr <| Zw (.map (some E)) rfl <| Zv (db rfl eq rfl l) <| Zv (f7 (enc := qO) (encV := Value.bool) (v0 := false) (k := (rj S o i)) rfl rfl uF sQ (fun a => ⟨a, rfl⟩) ss pp rfl d) <| Zv (fG rfl) <| cT <| ZQ rfl (fun q => ?_) fun q => ?_
 refine Zr <| Zw (.map (some E)) rfl <| Zv (db rfl eq rfl l) ?_
 refine gW (dd := none) rfl rfl rfl (fS (enc := qO) (encV := Value.bool) (k := (rj S o i)) (v := true) rfl rfl rfl uF sQ (fun a => ⟨a, rfl⟩) ss d (fun bs K aX => ?_))
 replace hB := Zg hB K aq
 replace f := At.grownMap f d K
 replace g := At.grownMap g d K
 replace ho_hP8_8 := dh.grownMap ho_hP8_8 d K
 replace hoo2 := dh.grownMap hoo2 d K
 replace p := At.grownMap p d K
 replace l := At.grownMap l d K
 replace d := aX
 rw [jz] at d
 refine cT <| cY <| Zw v1 rfl <| Zv (db rfl eq rfl l) <| Zy (eU (u := .agg #[_, _, _]) rfl dR fN rfl Dd Dd fun U bt ae D ai => ?_)
 have aT := ZO ae hB
 have aU := dh.neB (b := U) hoo2 (Nat.le_of_eq ae.symm)
 have aV := Zn ae l.lt
 clear ae
 replace hB := Ze hB D
 replace f := D.at f
 replace g := D.at g
 replace ho_hP8_8 := D.ow ho_hP8_8
 replace d := D.mapT d
 replace hoo2 := D.ow hoo2
 replace p := D.at p
 replace l := D.at l
 refine Zy (eC (v := v1) (v2 := .slice (some ⟨U, 0, none⟩) 1 1) rfl rfl dR fN Dd hoo2 (fm ai rfl) rfl (by have := Below.size hB; omega) (by first | omega | (simp; omega) | (simp only [cV, cW, cX, da, de]; omega)) (by first | omega | (simp; omega) | (simp only [cV, cW, cX, da, de]; omega)) fun V bu L A => ?_)
 replace A := dh.snoc (enc := fI) (x := (rj S o i)) rfl rfl rfl rfl A
 replace hB := ZG hB L hoo2
 replace f := At.grownOw f hoo2 L Dd
 replace g := At.grownOw g hoo2 L Dd
 replace ho_hP8_8 := dh.grownOw ho_hP8_8 hoo2 L Dd
 replace d := dT.grownOw d hoo2 L
 replace p := At.grownOw p hoo2 L Dd
 replace l := At.grownOwNe l T L
 clear hoo2
 refine Zw V rfl <| cT <| aa _ _ <| cY <| Zv (dp rfl rfl Om Om) <| Zi rfl <| cT ?_
 exact Z _ _ ((i + 1, V)) Za ⟨rfl, rfl, trivial⟩ ⟨hB, f, g, ho_hP8_8, (by first | exact d | (rw [← nJ (pY (kk := rj S o i) q)]; exact d)), (by first | (rw [← uK (vy (kk := rj S o i) q)]; exact A) | (rw [← nJ (pY (kk := rj S o i) q)]; exact A)), Om, trivial⟩ (by show (se S o).length - (i + 1) < (se S o).length - i; omega)
 refine c9 <| aa _ _ <| cY <| Zv (dp rfl rfl Om Om) <| Zi rfl <| cT ?_
 exact Z _ _ ((i + 1, v1)) Za ⟨rfl, rfl, trivial⟩ ⟨hB, f, g, ho_hP8_8, (by first | exact d | (rw [← nJ (pY (kk := rj S o i) q)]; exact d)), (by first | (rw [← uK (vy (kk := rj S o i) q)]; exact hoo2) | (rw [← nJ (pY (kk := rj S o i) q)]; exact hoo2)), Om, trivial⟩ (by show (se S o).length - (i + 1) < (se S o).length - i; omega)
 refine dt <| aC _ _ <| cY <| Zv (dp rfl rfl Om Om) <| Zi rfl <| cT ?_
 exact az _ _ ((o + 1, v1)) Za ⟨rfl, rfl, trivial⟩ ⟨hB, f, (by rw [DY]; have e : i = (se S o).length := Om; subst e; exact d), (by rw [DY]; have e : i = (se S o).length := Om; subst e; exact hoo2), Om, trivial⟩ (by show S.on.length - (o + 1) < S.on.length - o; omega)
 refine dt <| ay _ _ <| Zr <| Zw v0 rfl <| Zw v0 rfl <| Zw (.int .i64 0) rfl <| cT <| Zt <| d8 (v := v0) rfl (v1 := .int .i64 0) rfl ⟨hB, ?_⟩
 obtain rfl : o = S.on.length := by omega
 rw [if_pos hr]
 exact ⟨_, rfl, ho⟩
end
section
open Go Go.RowKit
end
section
open Go Go.RowKit
def xN (l : List Rw) (ks : List Int) : Nat → List Rw
 | 0 => []
 | k + 1 => if (k : Int) ∈ ks then xN l ks k ++ [l.getD k ⟨⟨0, 0⟩, 0⟩] else xN l ks k
theorem NE {l : List Rw} {ks : List Int} {k : Nat} (h : (k : Int) ∈ ks) : xN l ks k ++ [l.getD k ⟨⟨0, 0⟩, 0⟩] = xN l ks (k + 1) := (if_pos h).symm
theorem NN {l : List Rw} {ks : List Int} {k : Nat} (h : ¬ (k : Int) ∈ ks) : xN l ks k = xN l ks (k + 1) := (if_neg h).symm
theorem uZ (l : List Rw) (ks : List Int) : ∀ k, (xN l ks k).length = (kE ks k).length
 | 0 => rfl
 | k + 1 => by
  rw [xN, jg]
  split
  ·rw [List.length_append, List.length_append, uZ l ks k]; rfl
  ·exact uZ l ks k
theorem I4 (l : List Rw) (ks : List Int) (k : Nat) : (xN l ks k).length ≤ ks.length := by rw [uZ]; exact Cy ks k
theorem FU (l : List Rw) (ks : List Int) (k : Nat) : (xN l ks k).length ≤ k := by rw [uZ]; exact lN ks k
theorem tB {l : List Rw} {m : Nat} (h : m < l.length) : l.take m ++ [l.getD m ⟨⟨0, 0⟩, 0⟩] = l.take (m + 1) := by
 rw [List.take_add_one, List.getD_eq_getElem?_getD, List.getElem?_eq_getElem h]; rfl
theorem FD {l : List Rw} {ks : List Int} : ∀ k, k ≤ l.length → (xN l ks k).Sublist (l.take k)
 | 0, _ => by simp [xN]
 | k + 1, hk => by
  have ih := FD (l := l) (ks := ks) k (by omega)
  rw [xN, ← tB (by omega : k < l.length)]
  split
  ·exact ih.append (List.Sublist.refl _)
  ·exact ih.trans (List.sublist_append_left _ _)
def Oj (n : Nat) (ks : List Int) : List Bool := (List.range n).map fun c : Nat => decide ((c : Int) ∈ ks)
theorem F3 {n : Nat} {ks : List Int} {k : Nat} (h : k < n) : (Oj n ks).getD k false = decide ((k : Int) ∈ ks) := by
 unfold Oj
 rw [List.getD_eq_getElem?_getD, List.getElem?_map, List.getElem?_range h]
 rfl
theorem J3 {l : List Rw} {ks : List Int} : ∀ k, k ≤ l.length → xN l ks k = K1 l (Oj l.length ks) k
 | 0, _ => rfl
 | k + 1, hk => by
  rw [xN, K1, J3 k (by omega), F3 (show k < l.length by omega)]
  simp only [decide_eq_true_eq]
theorem IY {n : Nat} {ks : List Int} : ∀ k, k ≤ n → Md (Oj n ks) k = kE ks k
 | 0, _ => rfl
 | k + 1, hk => by
  rw [Md, jg, IY k (by omega), F3 (show k < n by omega)]
  simp only [decide_eq_true_eq]
section
variable {S : Sp}
theorem Gu (hr : dL S = true) (h4 : S.n ≤ 4) (h3 : S.on.length ≤ 3) : (eV S).length ≤ 2048 := by
 obtain ⟨h0, h8, _, _, h5, _⟩ := dX.1 hr
 have hn : (eV S).Nodup := (mp S _).imp fun h e => by rw [e, j9] at h; cases h
 have h := tL (b := (List.range 2048).map fun q => (⟨⟨q % 16, q / 16 % 16⟩, q / 256⟩ : Rw)) hn fun x hx => ?_
 ·simpa using h
 ·have hp := (fe.1 ((m6 hr).1 hx))
  have ho := (lS hp.1).1
  have hrt := fk hp.1
  obtain ⟨r1, r2, r3, r4⟩ := dV.1 hrt
  have hp3 : 2 ^ S.may.length ≤ 2 ^ 3 := Nat.pow_le_pow_right (by decide) (by omega)
  have hp4 : 2 ^ S.n.toNat ≤ 2 ^ 4 := Nat.pow_le_pow_right (by decide) (by omega)
  have hm : x.c.m < 16 := by omega
  have hvm : x.c.v ≤ x.c.m := by rw [← r4]; exact Nat.and_le_right
  have hv : x.c.v < 16 := by omega
  refine List.mem_map.2 ⟨x.c.m + 16 * x.c.v + 256 * x.o, List.mem_range.2 (by omega), ?_⟩
  have e1 : (x.c.m + 16 * x.c.v + 256 * x.o) % 16 = x.c.m := by omega
  have e2 : (x.c.m + 16 * x.c.v + 256 * x.o) / 16 % 16 = x.c.v := by omega
  have e3 : (x.c.m + 16 * x.c.v + 256 * x.o) / 256 = x.o := by omega
  rw [e1, e2, e3]
theorem uS (hr : dL S = true) : ∀ q, q < (eV S).length → lY S ((eV S).getD q ⟨⟨0, 0⟩, 0⟩) = true := fun q hq => (fe.1 (oF hr hq)).1
theorem Eb (hr : dL S = true) (hl : (eV S).length ≤ 4000) {ks : List Int} (h : mX (lP S (eV S)) ks) : jy S (xN (eV S) ks (eV S).length) = true := by
 rw [J3 _ (Nat.le_refl _)]
 have hm := NP (bs := Oj (eV S).length ks) hr (uS hr) hl (Nat.le_refl _)
 have hs : oU (lP S (eV S)) (Md (Oj (eV S).length ks) (eV S).length) = true := by
  rw [IY _ (Nat.le_refl _)]
  have := qb (j2 (S := S) hl) h
  rw [Int.toNat_natCast] at this
  exact Fh.2 this
 rw [j2 hl, hs] at hm
 exact hm.symm
theorem LH (hr : dL S = true) (hl : (eV S).length ≤ 4000) : mX (lP S (eV S)) (Po (eV S).length) := by
 have hm := NP (bs := Oj (eV S).length (Po (eV S).length)) hr (uS hr) hl (Nat.le_refl _)
 have e : xN (eV S) (Po (eV S).length) (eV S).length = eV S := by
  have key : ∀ k, k ≤ (eV S).length → xN (eV S) (Po (eV S).length) k = (eV S).take k := by
   intro k
   induction k with
   | zero => intro _; simp [xN]
   | succ k ih =>
    intro hk
    rw [xN, if_pos (LX.2 ⟨by omega, by omega⟩), ih (by omega), tB (by omega)]
  rw [key _ (Nat.le_refl _), List.take_length]
 rw [← J3 _ (Nat.le_refl _), e, IY _ (Nat.le_refl _), Fw hr, j2 hl, Bool.true_and] at hm
 have h2 : oU (lP S (eV S)) (kE (Po (eV S).length) (eV S).length) = true := hm
 exact ws (Fh.1 h2) fun c hc => (pT.1 hc).1
theorem Ld {L : ML} {X : List Int} (h : mX L X) : jk L L.length = true := JI.2 fun i hi => by
 obtain ⟨c, h1, _⟩ := h _ (dU (d := []) hi)
 exact List.length_pos_of_mem h1
theorem Oq (hr : dL S = true) {Z : List Rw} (h : jy S Z = true) {i : Nat} (hi : i < Z.length) : lY S (Z.getD i ⟨⟨0, 0⟩, 0⟩) = true := by
 obtain ⟨_, hm, hc⟩ := gY.1 h
 obtain ⟨h0, h8, h1, h4, h5, hin⟩ := dX.1 hr
 have hok := jn.1 (kP.1 hm i hi)
 refine fz.2 ⟨hr, hok.2.1, fun j hj => ?_⟩
 have hjl : j < S.on.length := by
  rcases Nat.lt_or_ge j S.on.length with k | k
  ·exact k
  ·have := fZ.1 hok.2.2 j k
   rw [hj] at this; cases this
 refine ⟨by omega, gn.2 ⟨hok.1, fun p hp hh => ?_⟩⟩
 refine ((mV hr hm hjl).1 (hc j hjl) p hp).2 (sI.2 ⟨i, hi, ?_⟩)
 rw [hj, Bool.true_and]
 unfold mI
 rw [decide_eq_true_eq, (dV.1 hok.1).2.2.2]
 exact hh
theorem Lo (hr : dL S = true) {Z : List Rw} (h : jy S Z = true) : ∃ Y : List Int, Y.Nodup ∧ mX (lP S (eV S)) Y ∧ Y.length ≤ Z.length := by
 obtain ⟨_, hm, hc⟩ := gY.1 h
 have place : ∀ z, ∃ c : Nat, z ∈ Z → lY S z = true → c < (eV S).length ∧ m3 ((eV S).getD c ⟨⟨0, 0⟩, 0⟩) z = true := fun z => by
  by_cases hz : lY S z = true
  ·obtain ⟨j, h1, h2⟩ := (qM _).1 (FR hz)
   exact ⟨j, fun _ _ => ⟨h1, h2⟩⟩
  ·exact ⟨0, fun _ k => absurd k hz⟩
 let idx : Rw → Int := fun z => ((Classical.choose (place z) : Nat) : Int)
 have hidx : ∀ z, z ∈ Z → lY S z = true → ∃ c : Nat, idx z = (c : Int) ∧ c < (eV S).length ∧ m3 ((eV S).getD c ⟨⟨0, 0⟩, 0⟩) z = true := fun z h1 h2 => ⟨_, rfl, Classical.choose_spec (place z) h1 h2⟩
 have fold : ∀ (l : List Rw) (acc : List Int), acc.Nodup → ((l.foldl (fun a z => iJ a (idx z)) acc).Nodup ∧ (l.foldl (fun a z => iJ a (idx z)) acc).length ≤ acc.length + l.length ∧ ∀ x, x ∈ acc ∨ (∃ z, z ∈ l ∧ x = idx z) → x ∈ l.foldl (fun a z => iJ a (idx z)) acc) := by
  intro l
  induction l with
  | nil => intro acc ha; exact ⟨ha, by simp, fun x hx => hx.elim id fun ⟨z, hz, _⟩ => by cases hz⟩
  | cons z l ih =>
   intro acc ha
   obtain ⟨i1, i2, i3⟩ := ih (iJ acc (idx z)) (jB ha _)
   have hl := qn acc (idx z)
   refine ⟨i1, ?_, fun x hx => i3 x ?_⟩
   ·rw [List.foldl_cons, List.length_cons]; omega
   ·rcases hx with hx | ⟨y, hy, e⟩
    ·exact .inl (gv.2 (.inl hx))
    ·rcases List.mem_cons.1 hy with q | q
     ·rw [q] at e; exact .inl (gv.2 (.inr e))
     ·exact .inr ⟨y, q, e⟩
 obtain ⟨f1, f2, f3⟩ := fold Z [] List.nodup_nil
 refine ⟨_, f1, fun r hr2 => ?_, by simpa using f2⟩
 obtain ⟨q, hq, j, hj, e⟩ := (oq _).1 (mB.1 hr2)
 obtain ⟨p, hp, hpb, hpe⟩ := lj hj
 rw [hpe, Int.toNat_natCast] at e
 have hpn : p < 2 ^ S.n.toNat := NT hr hq hpb hp
 obtain ⟨i, hi, hb⟩ := sI.1 (((mV hr hm hq).1 (hc q hq) p hpn).1 hpb)
 rw [Bool.and_eq_true] at hb
 have hz : Z.getD i ⟨⟨0, 0⟩, 0⟩ ∈ Z := dU hi
 have hin : lY S (Z.getD i ⟨⟨0, 0⟩, 0⟩) = true := Oq hr h hi
 obtain ⟨c, h1, h2, h3⟩ := hidx _ hz hin
 obtain ⟨h4, h5⟩ := kg.1 h3
 refine ⟨(c : Int), ?_, f3 _ (.inr ⟨_, hz, h1.symm⟩)⟩
 rw [e]
 refine oz.2 ⟨c, rfl, h2, ?_⟩
 unfold Hd
 rw [h5 q hb.1, Bool.true_and]
 have hv1 := (dV.1 (fk hin)).2.2.2
 have hv2 := (dV.1 (fk (uS hr c h2))).2.2.2
 have hp1 := of_decide_eq_true hb.2
 rw [hv1] at hp1
 unfold mI
 rw [decide_eq_true_eq, hv2]
 exact lD hv2 h4 hp1
end
structure CK (S : Sp) (R : List Rw) : Prop where
 cov : jy S R = true
 sub : R.Sublist (eV S)
 min : ∀ Z, jy S Z = true → R.length ≤ Z.length
theorem Mb {S : Sp} {L : ML} {T X ks : List Int} (hr : dL S = true) (hl : (eV S).length ≤ 4000) (h : lT (lP S (eV S)) L T) (k : M0 L ((eV S).length : Int) X) (hk : ∀ c, c ∈ ks ↔ c ∈ T ++ X) (hn : ks.Nodup) : CK S (xN (eV S) ks (eV S).length) := by
 obtain ⟨h1, h2⟩ := M0.both h k
 refine ⟨Eb hr hl (ws h1 fun c hc => (hk c).2 hc), ?_, fun Z hZ => ?_⟩
 ·have := FD (l := eV S) (ks := ks) _ (Nat.le_refl _)
  rwa [List.take_length] at this
 ·obtain ⟨Y, y1, y2, y3⟩ := Lo hr hZ
  have := h2 Y y1 y2
  have h3 := I4 (eV S) ks (eV S).length
  have h4 := tL hn fun c hc => (hk c).1 hc
  omega
end
end Go.Proofs.YteimkklmmanncaaGreat
