/- The walks of package isop. The walks of isop.Cover, isop.Grown, and of the document's cover. What the statements about covers need: points of cubes but for one, what grown cubes are. No program in it. Plain words for plain rows: the grown cubes of each output, grown once more, each once. No program  -/
import Derived.Test.YteimkklmmanncaaGreatWThin
namespace Go.Proofs.YteimkklmmanncaaGreat
set_option linter.unusedVariables false
set_option linter.unusedSimpArgs false
section
open Go Go.RowKit
theorem Ol76_0 {p : Prop} (h : p := by first | omega | (simp only [cV, cW, cX, da]; omega)) : p := h
theorem C0 : fx Tryz.prog 157 0 = some 0 := by kernel_rfl
theorem pw : kY Tryz.prog 157 = some 5 := by kernel_rfl
theorem ux : dC Tryz.prog 113 = true := by kernel_rfl
theorem EH : dC Tryz.prog 129 = true := by kernel_rfl
theorem rR : fp Tryz.prog 66 = true := by kernel_rfl
theorem Cf : fx Tryz.prog 157 1 = some 1 := by kernel_rfl
theorem ET : dC Tryz.prog 127 = true := by kernel_rfl
theorem OW : eL Tryz.prog 66 = some (.slice none 0 0) := by kernel_rfl
theorem Ep : dC Tryz.prog 128 = true := by kernel_rfl
theorem tE (s : Nat) (i : Int) (one : Bool) (w : World) :
    Fn Tryz.prog 127 #[eP s, .int .i64 i, .bool one] w fun v w' => v = eP (if 0 ≤ i ∧ i < 8 then dm s i.toNat one else 0) := by
 refine dq (n := 31) Tryz.func127 rfl rfl (Nat.le_of_ble_eq_true rfl) ?_
 have hB : Below w.heap.size w w := Below.refl _ _
 refine Zr <| Zy (dU (c := #[_, _, _, _]) rfl rfl fun P W3 D Q a => ?_)
 have al := ZO D hB
 clear D
 replace hB := Ze hB Q
 refine Zy (dt eM rfl fun E W6 x F b => ?_)
 have R := ZO x hB
 have S := Zn x a.lt
 clear x
 replace hB := Ze hB F
 replace a := F.at a
 replace b : At W6 E #[wv 0 0, wv 0 1, wv 0 2, wv 0 3] 49 := b
 refine cT <| Zr <| Zv (db rfl df rfl a) <| Zi rfl <| Zb rfl <| ZC (vs := [.agg #[_, _, _, _], .int .i64 _, .bool _]) yD (uX _ _ _ _) rfl fun ao ap y T => ?_
 replace hB := Ze hB y
 replace a := y.at a
 replace b := y.at b
 obtain rfl := T
 generalize hH : (if 0 ≤ i ∧ i < 8 then oV s i.toNat one else 0) = H
 refine Zy (dt eM rfl fun G U r z d => ?_)
 have V := ZO r hB
 have X := Zn r a.lt
 have I := Zn r b.lt
 clear r
 replace hB := Ze hB z
 replace a := z.at a
 replace b := z.at b
 replace d : At U G #[wv 0 0, wv 0 1, wv 0 2, wv 0 3] 49 := d
 refine Zy (dg rfl rfl df rfl d rfl rfl fun aq A Y => ?_)
 replace hB := Zg hB A V
 replace a := At.grownNe a X A
 replace b := At.grownNe b I A
 replace d := Y
 refine cT <| Zr <| Zv (db rfl df rfl d) <| Zy (dt eM rfl fun J Z j t e => ?_)
 have K := ZO j hB
 have L := Zn j a.lt
 have B := Zn j b.lt
 have M := Zn j d.lt
 clear j
 replace hB := Ze hB t
 replace a := t.at a
 replace b := t.at b
 replace d := t.at d
 replace e : At Z J #[wv 0 0, wv 0 1, wv 0 2, wv 0 3] 49 := e
 refine Zy (dg rfl rfl df rfl e rfl rfl fun ar u aa => ?_)
 replace hB := Zg hB u K
 replace a := At.grownNe a L u
 replace b := At.grownNe b B u
 replace d := At.grownNe d M u
 replace e := aa
 refine cT <| cY fun au ab => Zr <| Zv (db rfl df rfl d) <| ZC (vs := [.agg #[_, _, _, _]]) vC (mh _ _) rfl fun C av l f => ?_
 have ac := (Below.size hB)
 replace hB := Ze hB l
 replace a := l.at a
 replace b := l.at b
 replace d := l.at d
 replace e := l.at e
 replace f := dh.mono f ac
 refine Zv (dA (v := C) rfl f.sl du) <| Zw (.int .i64 0) rfl <| cT <| c7 ?_
 refine dw (σ := (Nat)) [10, 19, 20, 21, 22, 23, 24, 25, 26, 27, 28, 29] (fun k => [(19, .int .i64 (k : Int))]) (fun k W => (Below w.heap.size w W) ∧ (At W P _ 49) ∧ (At W E _ 49) ∧ (At W G _ 49) ∧ (dh d9 1 3 W w.heap.size C _) ∧ (At W J #[wv (jM (eg H) H i.toNat k) 0, wv (jM (eg H) H i.toNat k) 1, wv (jM (eg H) H i.toNat k) 2, wv (jM (eg H) H i.toNat k) 3] 49) ∧ (k ≤ (eg H).length) ∧ (True)) (fun k => (eg H).length - k) (0) ⟨rfl, trivial⟩ ⟨hB, a, b, d, f, e, (Nat.zero_le _), trivial⟩ ?_
 clear hB a b d e f
 rintro k aw ax ⟨hB, a, b, d, f, e, hk, _⟩ ay ad
 have hll := kT H
 refine Zr <| Zv (dL rfl rfl) <| cT <| cY fun az ae => ZQ rfl (fun N => ?_) fun N => ?_
 refine c9 <| ae _ _ <| cY fun aA af => c7 ?_
 have hi8 : 0 ≤ i ∧ i < 8 := KI hH N
 obtain ⟨p, aB, aC, O⟩ := kO (s := H) (i := k) (by omega)
 have h7 := zE (show i.toNat < 8 by omega)
 refine Zr <| Zv (dJ (v := C) rfl f.sl rfl du Om Ol76_0) <| Zv (dk (v := .int .i64 _) rfl dB (dM.cell f.sl eD 0 Om Ol76_0 0 rfl)) <| Zi rfl <| cT ?_
 have ag : (eg H).getD (k : Int).toNat 0 = (p : Int) := O
 rw [ag]
 refine gx eo im (fun ah h => ?_)
 replace hB := Ze hB h
 replace a := h.at a
 replace b := h.at b
 replace d := h.at d
 replace f := h.ow f
 replace e := h.at e
 have hS := eo.refl ah
 refine Tk 0 rfl (fun _ hq => db rfl df rfl (hq.at e)) hS <| Ti 1 rfl rfl hS <| Ti 2 rfl rfl hS <| Tk 3 rfl (fun _ _ => jB (m := 1) rfl rfl Om (by simp only [IntKind.bits]; omega) (by simp only [d5]; omega)) hS <| Tk 4 rfl (fun _ _ => JN (n := _) rfl rfl rfl (by simp only [d5]; omega) (by simp only [d5]; omega)) hS <| To 5 rfl (TC (vs := [.agg #[_, _, _, _], .int .i64 _]) vq (mr _ _ _) rfl fun aD aE g ai => ⟨.inl (hS.trans g), ?_⟩)
 replace hB := Ze hB g
 replace a := g.at a
 replace b := g.at b
 replace d := g.at d
 replace f := g.ow f
 replace e := g.at e
 replace hS := hS.trans g
 obtain rfl := ai
 refine To 6 rfl (dg rfl rfl df rfl e rfl rfl fun aF o aj => ⟨.inr (by kernel_rfl), ?_⟩)
 replace hB := Zg hB o K
 replace a := At.grownNe a L o
 replace b := At.grownNe b B o
 replace d := At.grownNe d M o
 replace f := dh.grownAt f e o Dd
 replace e := aj
 refine Td <| af _ _ <| cZ <| Zv (dp rfl rfl Om Om) <| Zi rfl <| cT ?_
 exact ad _ _ (k + 1) Za ⟨rfl, trivial⟩ ⟨hB, a, b, d, f, (by rw [tD Om, O, Int.toNat_natCast, ← Nat.one_mul (2 ^ i.toNat)]; exact e), Om, trivial⟩ Zo
 refine dr <| ab _ _ <| Zr <| Zv (db rfl df rfl e) <| Zy (dg rfl rfl df rfl b rfl rfl fun aG q ak => ?_)
 replace hB := Zg hB q R
 replace a := At.grownNe a S q
 replace d := At.grownNe d (Ne.symm I) q
 replace f := dh.grownAt f b q Dd
 replace e := At.grownNe e (Ne.symm B) q
 replace b := ak
 refine cT <| Zt <| jD rfl df b rfl ⟨hB, ?_⟩
 obtain rfl : k = (eg H).length := by omega
 rw [IQ hH]
theorem lM (n : Nat) (x : Value) (l : List Cb) (w : World) (h8 : n ≤ 8) (hl : dM gU 2 w x l) (hr : ∀ c, c ∈ l → c.m < 2 ^ n ∧ c.v &&& c.m = c.v) (hlb : l.length ≤ 100000) :
    Fn Tryz.prog 129 #[.agg #[.int .i64 (n : Int), wv (fj n) 0, wv (fj n) 1, wv (fj n) 2, wv (fj n) 3], x] w fun v w' => v = eP (kF l n l.length) := by
 refine dq (n := 28) Tryz.func129 rfl rfl (Nat.le_of_ble_eq_true rfl) ?_
 have hB : Below w.heap.size w w := Below.refl _ _
 refine Zr <| Zy (dU (c := #[_, _, _, _, _]) rfl rfl fun H W3 y I d => ?_)
 have ac := ZO y hB
 clear y
 replace hB := Ze hB I
 refine Zy (dt eM rfl fun z W6 A B a => ?_)
 have J := ZO A hB
 clear A
 replace hB := Ze hB B
 replace d := B.at d
 replace a : At W6 z #[wv 0 0, wv 0 1, wv 0 2, wv 0 3] 49 := a
 refine cT <| Zr <| Zy (dt eM rfl fun C K s t b => ?_)
 have L := ZO s hB
 have D := Zn s a.lt
 clear s
 replace hB := Ze hB t
 replace d := t.at d
 replace a := t.at a
 replace b : At K C #[wv 0 0, wv 0 1, wv 0 2, wv 0 3] 49 := b
 refine cT <| cY fun ad M => Zr <| Zw x rfl <| Zv (dA (v := x) rfl (Below.slT hB hl) eZ) <| Zw (.int .i64 0) rfl <| cT <| c7 ?_
 refine dw (σ := (Nat)) [7, 8, 9, 12, 13, 14, 15, 16, 17, 18, 19, 20, 21, 22, 23, 24, 25, 26] (fun k => [(12, .int .i64 (k : Int))]) (fun k W => (Below w.heap.size w W) ∧ (At W H _ 157) ∧ (At W z _ 49) ∧ (At W C #[wv (kF l n k) 0, wv (kF l n k) 1, wv (kF l n k) 2, wv (kF l n k) 3] 49) ∧ (k ≤ l.length) ∧ (True)) (fun k => l.length - k) (0) ⟨rfl, trivial⟩ ⟨hB, d, a, b, (Nat.zero_le _), trivial⟩ ?_
 clear hB d a b
 rintro k ae af ⟨hB, d, a, b, hk, _⟩ ag N
 refine Zr <| Zv (dL rfl rfl) <| cT <| cY fun ah O => ZQ rfl (fun P => ?_) fun P => ?_
 refine c9 <| O _ _ <| cY fun ai Q => c7 ?_
 obtain ⟨hr1, hr2⟩ := hr (l.getD k ⟨0, 0⟩) (dS (by omega))
 have hle256 := fT h8
 have hr3 : (l.getD k ⟨0, 0⟩).v ≤ (l.getD k ⟨0, 0⟩).m := by rw [← hr2]; exact Nat.and_le_right
 have hrr : dY (l.getD k ⟨0, 0⟩).m (l.getD k ⟨0, 0⟩).v (n : Int) = true := dW.2 ⟨by omega, by omega, hr1, hr2⟩
 refine Zr <| Zv (dJ (v := x) rfl (Below.slT hB hl) rfl eZ Om Ol76_0) <| Zv (ig rfl dN (dM.cell (Below.slT hB hl) gj ⟨0, 0⟩ Om Ol76_0 0 rfl) (dM.cell (Below.slT hB hl) gj ⟨0, 0⟩ Om Ol76_0 1 rfl)) <| Zy (dt i4 rfl fun aj ak E p e => ?_)
 have R := ZO E hB
 clear E
 replace hB := Ze hB p
 replace d := p.at d
 replace a := p.at a
 replace b := p.at b
 refine Zy (dg rfl rfl dN rfl e rfl rfl fun al q S => ?_)
 replace hB := Zg hB q R
 replace d := At.grownAt d e q Dd
 replace a := At.grownAt a e q Dd
 replace b := At.grownAt b e q Dd
 replace e := S
 refine cT <| Zr <| Zv (db rfl dN rfl e) <| Zf rfl C0 <| Zl rfl dB d rfl <| ZC (vs := [.agg #[_, _], .int .i64 _]) yN (lc _ _ (n : Int) _ (by show (l.getD k ⟨0, 0⟩).m < 256; omega) (by show (l.getD k ⟨0, 0⟩).v < 256; omega)) rfl fun ao ap h F => ?_
 replace hB := Ze hB h
 replace d := h.at d
 replace a := h.at a
 replace b := h.at b
 replace e := h.at e
 rw [if_pos (show dY (l.getD ((k : Nat) : Int).toNat ⟨0, 0⟩).m (l.getD ((k : Nat) : Int).toNat ⟨0, 0⟩).v (n : Int) = true from hrr)] at F
 obtain rfl := F
 refine Zw (.tuple #[.agg #[_, _, _, _], .int .i64 _]) rfl <| Zv (dI rfl) <| Zv (dK rfl) <| Zy (dt eM rfl fun T U r i f => ?_)
 have V := ZO r hB
 have X := Zn r a.lt
 have G := Zn r b.lt
 clear r
 replace hB := Ze hB i
 replace d := i.at d
 replace a := i.at a
 replace b := i.at b
 replace e := i.at e
 replace f : At U T #[wv 0 0, wv 0 1, wv 0 2, wv 0 3] 49 := f
 refine Zy (dg rfl rfl df rfl f rfl rfl fun aq j Y => ?_)
 replace hB := Zg hB j V
 replace d := At.grownAt d f j Dd
 replace a := At.grownNe a X j
 replace b := At.grownNe b G j
 replace e := At.grownAt e f j Dd
 replace f := Y
 refine Zi rfl <| cT <| cZ <| Zv (db rfl df rfl b) <| Zv (db rfl df rfl f) <| ZC (vs := [.agg #[_, _, _, _], .agg #[_, _, _, _]]) sA (rZ _ _ _) rfl fun ar au g Z => ?_
 replace hB := Ze hB g
 replace d := g.at d
 replace a := g.at a
 replace b := g.at b
 replace e := g.at e
 replace f := g.at f
 obtain rfl := Z
 refine Zy (dg rfl rfl df rfl b rfl rfl fun av o aa => ?_)
 replace hB := Zg hB o L
 replace d := At.grownAt d b o Dd
 replace a := At.grownNe a D o
 replace e := At.grownAt e b o Dd
 replace f := At.grownNe f (Ne.symm G) o
 replace b := aa
 refine cT <| Q _ _ <| cZ <| Zv (dp rfl rfl Om Om) <| Zi rfl <| cT ?_
 exact N _ _ (k + 1) Za ⟨rfl, trivial⟩ ⟨hB, d, a, (by exact b), Om, trivial⟩ Zo
 refine dr <| M _ _ <| Zr <| Zv (db rfl df rfl b) <| Zy (dg rfl rfl df rfl a rfl rfl fun aw u ab => ?_)
 replace hB := Zg hB u J
 replace d := At.grownAt d a u Dd
 replace b := At.grownNe b (Ne.symm D) u
 replace a := ab
 refine cT <| Zt <| jD rfl df a rfl ⟨hB, ?_⟩
 obtain rfl : k = l.length := by omega
 rfl
theorem QX (n f i on may N bm bons bmays bi brest bout rest : Nat) (v0 : Value) (out : List Cb) (w : World) (hN0 : N ≤ w.heap.size) (hih : ∀ (on may i : Nat) (w : World), n ≤ 8 → mQ n on may i → n + 1 - i ≤ f → f ≤ 9 → Fn Tryz.prog 113 #[.agg #[.int .i64 (n : Int), wv (fj n) 0, wv (fj n) 1, wv (fj n) 2, wv (fj n) 3], eP on, eP may, .int .i64 (i : Int)] w fun v w' => dh gU 2 40 w' w.heap.size v (eI n f on may i)) (h8 : n ≤ 8) (hg : mQ n on may i) (hi : i < n) (hf : n + 1 - (i + 1) ≤ f) (hf9 : f ≤ 8) (hm : At w bm #[.int .i64 (n : Int), wv (fj n) 0, wv (fj n) 1, wv (fj n) 2, wv (fj n) 3] 157) (hons : At w bons (mJ (dm on i false) (dm on i true)) 164) (hmays : At w bmays (mJ (dm may i false) (dm may i true)) 164) (hbi : At w bi #[.int .i64 (i : Int)] 3) (hrest : At w brest #[wv rest 0, wv rest 1, wv rest 2, wv rest 3] 49) (hout : At w bout #[v0] 66) (hown : dh gU 2 40 w N v0 out) (hlen : out.length ≤ 20000) (lor : N ≤ brest) (loo : N ≤ bout) :
    qJ Tryz.prog 128 #[.int .i64 0, .pointer (some ⟨bm, 0, none⟩), .pointer (some ⟨bons, 0, none⟩), .pointer (some ⟨bmays, 0, none⟩), .pointer (some ⟨bi, 0, none⟩), .pointer (some ⟨brest, 0, none⟩), .pointer (some ⟨bout, 0, none⟩)] w fun v w' => Below N w w' ∧ At w' bm #[.int .i64 (n : Int), wv (fj n) 0, wv (fj n) 1, wv (fj n) 2, wv (fj n) 3] 157 ∧ At w' bons (mJ (dm on i false) (dm on i true)) 164 ∧ At w' bmays (mJ (dm may i false) (dm may i true)) 164 ∧ At w' bi #[.int .i64 (i : Int)] 3 ∧ At w' brest #[wv (rest ||| andNot (dm on i false) (kF (eI n f (andNot (dm on i false) (dm may i true)) (dm may i false) (i + 1)) n (eI n f (andNot (dm on i false) (dm may i true)) (dm may i false) (i + 1)).length)) 0, wv (rest ||| andNot (dm on i false) (kF (eI n f (andNot (dm on i false) (dm may i true)) (dm may i false) (i + 1)) n (eI n f (andNot (dm on i false) (dm may i true)) (dm may i false) (i + 1)).length)) 1, wv (rest ||| andNot (dm on i false) (kF (eI n f (andNot (dm on i false) (dm may i true)) (dm may i false) (i + 1)) n (eI n f (andNot (dm on i false) (dm may i true)) (dm may i false) (i + 1)).length)) 2, wv (rest ||| andNot (dm on i false) (kF (eI n f (andNot (dm on i false) (dm may i true)) (dm may i false) (i + 1)) n (eI n f (andNot (dm on i false) (dm may i true)) (dm may i false) (i + 1)).length)) 3] 49 ∧ ∃ v1, At w' bout #[v1] 66 ∧ dh gU 2 40 w' N v1 (out ++ (eI n f (andNot (dm on i false) (dm may i true)) (dm may i false) (i + 1)).map (iq i 0)) := by
 refine eX (n := 60) Tryz.func128 rfl rfl (Nat.le_of_ble_eq_true rfl) ?_
 have hB : Below N w w := Below.refl _ _
 have hi8 : i < 8 := by omega
 refine Zd eo fun W3 E => ?_
 replace hm := E.at hm
 replace hons := E.at hons
 replace hmays := E.at hmays
 replace hbi := E.at hbi
 replace hrest := E.at hrest
 replace hout := E.at hout
 replace hown := E.ow hown
 replace hB := dF hB E hN0
 have hS := eo.refl W3
 refine Tk 0 rfl (fun _ hq => db rfl pw rfl (hq.at hm)) hS <| Tw 1 (.int .i64 0) rfl rfl hS <| Tk 2 rfl (fun _ _ => e7 rfl rfl gQ Om Om) hS <| Tk 3 rfl (fun _ hq => fq rfl df (At.cell (hq.at hons) rfl) (At.cell (hq.at hons) rfl) (At.cell (hq.at hons) rfl) (At.cell (hq.at hons) rfl)) hS <| Tw 4 (.int .i64 0) rfl rfl hS <| Tk 5 rfl (fun _ _ => kU rfl rfl Om Om) hS <| Tk 6 rfl (fun _ _ => e7 rfl rfl gQ Om Om) hS <| Tk 7 rfl (fun _ hq => fq rfl df (At.cell (hq.at hmays) rfl) (At.cell (hq.at hmays) rfl) (At.cell (hq.at hmays) rfl) (At.cell (hq.at hmays) rfl)) hS <| Tw 9 (.int .i64 0) rfl rfl hS <| Tk 10 rfl (fun _ _ => e7 rfl rfl gQ Om Om) hS <| Tk 11 rfl (fun _ hq => fq rfl df (At.cell (hq.at hmays) rfl) (At.cell (hq.at hmays) rfl) (At.cell (hq.at hmays) rfl) (At.cell (hq.at hmays) rfl)) hS <| Tk 12 rfl (fun _ hq => dk (v := .int .i64 _) rfl dB (At.cell (hq.at hbi) rfl)) hS <| Tk 13 rfl (fun _ _ => dp rfl rfl Om Om) hS <| To 8 rfl (TC (vs := [.agg #[_, _, _, _], .agg #[_, _, _, _]]) wg (mB _ _ _) rfl fun aq W5 l S => ⟨.inl (hS.trans l), ?_⟩)
 replace hm := l.at hm
 replace hons := l.at hons
 replace hmays := l.at hmays
 replace hbi := l.at hbi
 replace hrest := l.at hrest
 replace hout := l.at hout
 replace hown := l.ow hown
 replace hB := dF hB l hN0
 replace hS := hS.trans l
 obtain rfl := S
 refine To 14 rfl (TC (vs := [.agg #[_, _, _, _, _], .agg #[_, _, _, _], .agg #[_, _, _, _], .int .i64 _]) ux (hih _ _ (i + 1) _ h8 (hg.side h8 hi false) hf (Nat.le_trans hf9 Dd)) rfl fun F W9 o a => ⟨.inl (hS.trans o), ?_⟩)
 have T := dh.lt2 hown
 have U := (Nat.le_trans hN0 (Below.size hB))
 replace hm := o.at hm
 replace hons := o.at hons
 replace hmays := o.at hmays
 replace hbi := o.at hbi
 replace hrest := o.at hrest
 replace hout := o.at hout
 replace hown := o.ow hown
 replace hB := dF hB o hN0
 replace hS := hS.trans o
 have Q := eO.new T a
 replace a := dh.mono a U
 have hcm : je n (dm may i false) (i + 1) (eI n f (andNot (dm on i false) (dm may i true)) (dm may i false) (i + 1)) := (kv h8 f _ _ _ (hg.side h8 hi false) hf).1
 have hcl := iI (n := n) f (andNot (dm on i false) (dm may i true)) (dm may i false) (i + 1)
 have h3f : 3 ^ f ≤ 3 ^ 8 := Nat.pow_le_pow_right (by decide) hf9
 try simp only [Bool.not_false, Bool.not_true] at a
 generalize hL : eI n f (andNot (dm on i false) (dm may i true)) (dm may i false) (i + 1) = L at *
 refine Tw 15 F rfl rfl hS <| Td <| Zd eo fun V t => ?_
 replace hm := t.at hm
 replace hons := t.at hons
 replace hmays := t.at hmays
 replace hbi := t.at hbi
 replace hrest := t.at hrest
 replace hout := t.at hout
 replace hown := t.ow hown
 replace hB := dF hB t hN0
 replace a := t.ow a
 have hS := eo.refl V
 refine Tk 0 rfl (fun _ hq => db rfl df rfl (hq.at hrest)) hS <| Tw 1 (.int .i64 0) rfl rfl hS <| Tk 2 rfl (fun _ _ => e7 rfl rfl gQ Om Om) hS <| Tk 3 rfl (fun _ hq => fq rfl df (At.cell (hq.at hons) rfl) (At.cell (hq.at hons) rfl) (At.cell (hq.at hons) rfl) (At.cell (hq.at hons) rfl)) hS <| Tk 4 rfl (fun _ hq => db rfl pw rfl (hq.at hm)) hS <| Tw 5 F rfl rfl hS <| To 6 rfl (TC (vs := [.agg #[_, _, _, _, _], F]) EH (lM n _ L _ h8 a.sl (fun c hc => ⟨(hcm c hc).1, (hcm c hc).2.1⟩) Om) rfl fun ar au e X => ⟨.inl (hS.trans e), ?_⟩)
 replace hm := e.at hm
 replace hons := e.at hons
 replace hmays := e.at hmays
 replace hbi := e.at hbi
 replace hrest := e.at hrest
 replace hout := e.at hout
 replace hown := e.ow hown
 replace hB := dF hB e hN0
 replace a := e.ow a
 replace hS := hS.trans e
 obtain rfl := X
 refine To 7 rfl (TC (vs := [.agg #[_, _, _, _], .agg #[_, _, _, _]]) wg (mB _ _ _) rfl fun av aw g Y => ⟨.inl (hS.trans g), ?_⟩)
 replace hm := g.at hm
 replace hons := g.at hons
 replace hmays := g.at hmays
 replace hbi := g.at hbi
 replace hrest := g.at hrest
 replace hout := g.at hout
 replace hown := g.ow hown
 replace hB := dF hB g hN0
 replace a := g.ow a
 replace hS := hS.trans g
 obtain rfl := Y
 refine To 8 rfl (TC (vs := [.agg #[_, _, _, _], .agg #[_, _, _, _]]) sA (rZ _ _ _) rfl fun ax ay h Z => ⟨.inl (hS.trans h), ?_⟩)
 replace hm := h.at hm
 replace hons := h.at hons
 replace hmays := h.at hmays
 replace hbi := h.at hbi
 replace hrest := h.at hrest
 replace hout := h.at hout
 replace hown := h.ow hown
 replace hB := dF hB h hN0
 replace a := h.ow a
 replace hS := hS.trans h
 obtain rfl := Z
 refine To 9 rfl (dg rfl rfl df rfl hrest rfl rfl fun az y aa => ⟨.inr (by kernel_rfl), ?_⟩)
 replace hm := At.grownAt hm hrest y Dd
 replace hons := At.grownAt hons hrest y Dd
 replace hmays := At.grownAt hmays hrest y Dd
 replace hbi := At.grownAt hbi hrest y Dd
 replace hout := At.grownAt hout hrest y Dd
 replace hown := dh.grownAt hown hrest y Dd
 replace hB := dy hB y hN0 (fun j hj => by cases hj; exact lor)
 replace a := dh.grownAt a hrest y Dd
 clear y hrest
 replace hrest := aa
 refine Td <| Zr <| Zw F rfl <| Zv (dA (v := F) rfl a.sl eZ) <| Zw (.int .i64 0) rfl <| cT <| c7 ?_
 refine dw (σ := (Nat) × (Value)) [10, 37, 38, 39, 40, 41, 42, 43, 44, 45, 46, 47, 48, 49, 50, 51, 52, 53, 54, 55, 56, 57, 58, 59] (fun (k, v2) => [(37, .int .i64 (k : Int))]) (fun sg W => match sg with | (k, v2) => (At W bm _ 157) ∧ (At W bons _ 164) ∧ (At W bmays _ 164) ∧ (At W bi _ 3) ∧ (At W brest _ 49) ∧ (Below N w W) ∧ (dh gU 2 40 W N F _) ∧ (At W bout #[v2] 66) ∧ (dh gU 2 40 W N v2 (out ++ (L.take k).map (iq i 0))) ∧ (eO v2 F) ∧ (k ≤ L.length) ∧ (True)) (fun (k, v2) => L.length - k) ((0, v0)) ⟨rfl, trivial⟩ ⟨hm, hons, hmays, hbi, hrest, hB, a, hout, (by rw [List.take_zero, List.map_nil, List.append_nil]; exact hown), Q, (Nat.zero_le _), trivial⟩ ?_
 clear hm hons hmays hbi hrest hout hown hB Q a
 rintro ⟨k, v2⟩ aA aB ⟨hm, hons, hmays, hbi, hrest, hB, a, hout, hown, hap, hk, _⟩ aC ab
 refine Zr <| Zv (dL rfl rfl) <| cT <| cY fun aD ac => ZQ rfl (fun ad => ?_) fun ad => ?_
 refine c9 <| ac _ _ <| cY fun aE ae => c7 ?_
 have hck := hcm (L.getD k ⟨0, 0⟩) (dS (by omega))
 obtain ⟨hck1, hck2, _, _⟩ := hck
 have hle256 := fT h8
 have hck3 : (L.getD k ⟨0, 0⟩).v ≤ (L.getD k ⟨0, 0⟩).m := by rw [← hck2]; exact Nat.and_le_right
 refine Zr <| Zv (dJ (v := F) rfl a.sl rfl eZ Om Ol76_0) <| Zv (ig rfl dN (dM.cell a.sl gj ⟨0, 0⟩ Om Ol76_0 0 rfl) (dM.cell a.sl gj ⟨0, 0⟩ Om Ol76_0 1 rfl)) <| Zy (dt i4 rfl fun M aF I z d => ?_)
 have O : N ≤ M := I ▸ (Nat.le_trans hN0 (Below.size hB))
 have P := dh.neB (b := M) a (Nat.le_of_eq I.symm)
 have J := dh.neB (b := M) hown (Nat.le_of_eq I.symm)
 clear I
 replace hm := z.at hm
 replace hons := z.at hons
 replace hmays := z.at hmays
 replace hbi := z.at hbi
 replace hrest := z.at hrest
 replace hB := dF hB z hN0
 replace a := z.ow a
 replace hout := z.at hout
 replace hown := z.ow hown
 refine Zy (dg rfl rfl dN rfl d rfl rfl fun aG A af => ?_)
 replace hm := At.grownAt hm d A Dd
 replace hons := At.grownAt hons d A Dd
 replace hmays := At.grownAt hmays d A Dd
 replace hbi := At.grownAt hbi d A Dd
 replace hrest := At.grownAt hrest d A Dd
 replace hB := dy hB A hN0 (fun j hj => by cases hj; exact O)
 replace a := dh.grownAtNe a P A
 replace hout := At.grownAt hout d A Dd
 replace hown := dh.grownAtNe hown J A
 replace d := af
 refine cT <| Zd eo fun ag p => ?_
 replace hm := p.at hm
 replace hons := p.at hons
 replace hmays := p.at hmays
 replace hbi := p.at hbi
 replace hrest := p.at hrest
 replace hB := dF hB p hN0
 replace a := p.ow a
 replace hout := p.at hout
 replace hown := p.ow hown
 replace d := p.at d
 have hS := eo.refl ag
 refine Tf 0 rfl rfl eQ hS <| Tk 1 rfl (fun _ hq => dk (v := .int .u8 _) rfl ef (At.cell (hq.at d) rfl)) hS <| Tk 2 rfl (fun _ hq => dk (v := .int .i64 _) rfl dB (At.cell (hq.at hbi) rfl)) hS <| Tk 3 rfl (fun _ _ => jB (m := 1) rfl rfl Om (by simp only [IntKind.bits]; omega) (by exact rO _ _ (by simp only [lN]; omega))) hS <| Tk 4 rfl (fun _ _ => Cq (n := _) rfl rfl rfl (by show (L.getD k ⟨0, 0⟩).m < 256; omega) (by exact rO _ _ (by simp only [lN]; omega))) hS <| Tf 5 rfl rfl eQ hS <| To 6 rfl (eC (v := .int .u8 _) rfl rfl ef rfl d (by simp) fun aH B ah => ⟨.inr (by kernel_rfl), ?_⟩)
 replace hm := At.grownAt hm d B Dd
 replace hons := At.grownAt hons d B Dd
 replace hmays := At.grownAt hmays d B Dd
 replace hbi := At.grownAt hbi d B Dd
 replace hrest := At.grownAt hrest d B Dd
 replace hB := dy hB B hN0 (fun j hj => by cases hj; exact O)
 replace a := dh.grownAtNe a P B
 replace hout := At.grownAt hout d B Dd
 replace hown := dh.grownAtNe hown J B
 replace d := ah
 replace d : At _ _ #[_, _] _ := d
 refine Td <| Zd eo fun ai q => ?_
 replace hm := q.at hm
 replace hons := q.at hons
 replace hmays := q.at hmays
 replace hbi := q.at hbi
 replace hrest := q.at hrest
 replace hB := dF hB q hN0
 replace a := q.ow a
 replace hout := q.at hout
 replace hown := q.ow hown
 replace d := q.at d
 have hS := eo.refl ai
 refine Tf 0 rfl rfl gr hS <| Tk 1 rfl (fun _ hq => dk (v := .int .u8 _) rfl ef (At.cell (hq.at d) rfl)) hS <| Tw 2 (.int .i64 0) rfl rfl hS <| Tk 3 rfl (fun _ _ => jt (m := 0) rfl Tryz.underlying3 Tryz.underlying5 Dd) hS <| Tk 4 rfl (fun _ hq => dk (v := .int .i64 _) rfl dB (At.cell (hq.at hbi) rfl)) hS <| Tk 5 rfl (fun _ _ => jB (m := 0) rfl rfl Om (by simp only [IntKind.bits]; omega) (by rw [Nat.zero_mul]; decide)) hS <| Tk 6 rfl (fun _ _ => Cq (n := _) rfl rfl rfl (by show (L.getD k ⟨0, 0⟩).v < 256; omega) (by rw [Nat.zero_mul]; decide)) hS <| Tf 7 rfl rfl gr hS <| To 8 rfl (eC (v := .int .u8 _) rfl rfl ef rfl d (by simp) fun aI C aj => ⟨.inr (by kernel_rfl), ?_⟩)
 replace hm := At.grownAt hm d C Dd
 replace hons := At.grownAt hons d C Dd
 replace hmays := At.grownAt hmays d C Dd
 replace hbi := At.grownAt hbi d C Dd
 replace hrest := At.grownAt hrest d C Dd
 replace hB := dy hB C hN0 (fun j hj => by cases hj; exact O)
 replace a := dh.grownAtNe a P C
 replace hout := At.grownAt hout d C Dd
 replace hown := dh.grownAtNe hown J C
 replace d := aj
 replace d : At _ _ #[_, _] _ := d
 refine Td <| cZ <| ZL v2 rfl rR hout rfl <| Zv (db rfl dN rfl d) <| Zy (fc (u := .agg #[_, _]) rfl eZ ja rfl Dd Dd fun K aJ H r ak => ?_)
 have aK : N ≤ K := H ▸ (Nat.le_trans hN0 (Below.size hB))
 have aL := dh.neB (b := K) a (Nat.le_of_eq H.symm)
 have aM := dh.neB (b := K) hown (Nat.le_of_eq H.symm)
 have aN := Zn H d.lt
 clear H
 replace hm := r.at hm
 replace hons := r.at hons
 replace hmays := r.at hmays
 replace hbi := r.at hbi
 replace hrest := r.at hrest
 replace hB := dF hB r hN0
 replace a := r.ow a
 replace hout := r.at hout
 replace hown := r.ow hown
 replace d := r.at d
 refine Zy (jr (v := v2) (v2 := .slice (some ⟨K, 0, none⟩) 1 1) rfl rfl eZ ja Dd hown (fG ak rfl) rfl (by have := Below.size hB; omega) (by first | omega | (simp; omega) | (simp only [cV, cW, cX, da]; omega)) (by first | omega | (simp; omega) | (simp only [cV, cW, cX, da]; omega)) fun R aO D G al => ?_)
 have ao := eO.app hap al a
 replace G := dh.snoc (enc := gU) (x := ⟨_, _⟩) rfl rfl rfl rfl G
 replace hm := At.grownOw hm hown D Dd
 replace hons := At.grownOw hons hown D Dd
 replace hmays := At.grownOw hmays hown D Dd
 replace hbi := At.grownOw hbi hown D Dd
 replace hrest := At.grownOw hrest hown D Dd
 replace hB := dy hB D hN0 (fun j hj => (dh.lt hown j hj))
 replace a := dh.grownAp a hap D
 replace hout := At.grownOw hout hown D Dd
 replace d := At.grownOwNe d J D
 clear hown
 refine Zy (eC (v := R) rfl rfl rR (dM.one G.sl) hout (by simp) fun aP s ap => ?_)
 replace hm := At.grownAt hm hout s Dd
 replace hons := At.grownAt hons hout s Dd
 replace hmays := At.grownAt hmays hout s Dd
 replace hbi := At.grownAt hbi hout s Dd
 replace hrest := At.grownAt hrest hout s Dd
 replace hB := dy hB s hN0 (fun j hj => by cases hj; exact loo)
 replace a := dh.grownAt a hout s Dd
 replace d := At.grownAt d hout s Dd
 replace G := dh.grownAt G hout s Dd
 clear s hout
 replace hout := ap
 replace hout : At _ _ #[_] _ := hout
 refine cT <| ae _ _ <| cZ <| Zv (dp rfl rfl Om Om) <| Zi rfl <| cT ?_
 exact ab _ _ ((k + 1, R)) Za ⟨rfl, trivial⟩ ⟨hm, hons, hmays, hbi, hrest, hB, a, hout, (by rw [AV Om, ← List.append_assoc]; exact G), ao, Om, trivial⟩ (by show L.length - (k + 1) < L.length - k; omega)
 refine dr ?_
 repeat (first | refine oK ?_ | refine nc ?_)
 refine m9 ?_
 repeat (first | refine j6 ?_ | refine jp ?_)
 refine HP ?_
 have hkL : k = L.length := by omega
 rw [hkL, List.take_length] at hown
 exact ⟨hB, hm, hons, hmays, hbi, hrest, _, hout, hown⟩
theorem Q3 (n f i on may N bm bons bmays bi brest bout rest : Nat) (v0 : Value) (out : List Cb) (w : World) (hN0 : N ≤ w.heap.size) (hih : ∀ (on may i : Nat) (w : World), n ≤ 8 → mQ n on may i → n + 1 - i ≤ f → f ≤ 9 → Fn Tryz.prog 113 #[.agg #[.int .i64 (n : Int), wv (fj n) 0, wv (fj n) 1, wv (fj n) 2, wv (fj n) 3], eP on, eP may, .int .i64 (i : Int)] w fun v w' => dh gU 2 40 w' w.heap.size v (eI n f on may i)) (h8 : n ≤ 8) (hg : mQ n on may i) (hi : i < n) (hf : n + 1 - (i + 1) ≤ f) (hf9 : f ≤ 8) (hm : At w bm #[.int .i64 (n : Int), wv (fj n) 0, wv (fj n) 1, wv (fj n) 2, wv (fj n) 3] 157) (hons : At w bons (mJ (dm on i false) (dm on i true)) 164) (hmays : At w bmays (mJ (dm may i false) (dm may i true)) 164) (hbi : At w bi #[.int .i64 (i : Int)] 3) (hrest : At w brest #[wv rest 0, wv rest 1, wv rest 2, wv rest 3] 49) (hout : At w bout #[v0] 66) (hown : dh gU 2 40 w N v0 out) (hlen : out.length ≤ 20000) (lor : N ≤ brest) (loo : N ≤ bout) :
    qJ Tryz.prog 128 #[.int .i64 1, .pointer (some ⟨bm, 0, none⟩), .pointer (some ⟨bons, 0, none⟩), .pointer (some ⟨bmays, 0, none⟩), .pointer (some ⟨bi, 0, none⟩), .pointer (some ⟨brest, 0, none⟩), .pointer (some ⟨bout, 0, none⟩)] w fun v w' => Below N w w' ∧ At w' bm #[.int .i64 (n : Int), wv (fj n) 0, wv (fj n) 1, wv (fj n) 2, wv (fj n) 3] 157 ∧ At w' bons (mJ (dm on i false) (dm on i true)) 164 ∧ At w' bmays (mJ (dm may i false) (dm may i true)) 164 ∧ At w' bi #[.int .i64 (i : Int)] 3 ∧ At w' brest #[wv (rest ||| andNot (dm on i true) (kF (eI n f (andNot (dm on i true) (dm may i false)) (dm may i true) (i + 1)) n (eI n f (andNot (dm on i true) (dm may i false)) (dm may i true) (i + 1)).length)) 0, wv (rest ||| andNot (dm on i true) (kF (eI n f (andNot (dm on i true) (dm may i false)) (dm may i true) (i + 1)) n (eI n f (andNot (dm on i true) (dm may i false)) (dm may i true) (i + 1)).length)) 1, wv (rest ||| andNot (dm on i true) (kF (eI n f (andNot (dm on i true) (dm may i false)) (dm may i true) (i + 1)) n (eI n f (andNot (dm on i true) (dm may i false)) (dm may i true) (i + 1)).length)) 2, wv (rest ||| andNot (dm on i true) (kF (eI n f (andNot (dm on i true) (dm may i false)) (dm may i true) (i + 1)) n (eI n f (andNot (dm on i true) (dm may i false)) (dm may i true) (i + 1)).length)) 3] 49 ∧ ∃ v1, At w' bout #[v1] 66 ∧ dh gU 2 40 w' N v1 (out ++ (eI n f (andNot (dm on i true) (dm may i false)) (dm may i true) (i + 1)).map (iq i 1)) := by
 refine eX (n := 60) Tryz.func128 rfl rfl (Nat.le_of_ble_eq_true rfl) ?_
 have hB : Below N w w := Below.refl _ _
 have hi8 : i < 8 := by omega
 refine Zd eo fun W3 E => ?_
 replace hm := E.at hm
 replace hons := E.at hons
 replace hmays := E.at hmays
 replace hbi := E.at hbi
 replace hrest := E.at hrest
 replace hout := E.at hout
 replace hown := E.ow hown
 replace hB := dF hB E hN0
 have hS := eo.refl W3
 refine Tk 0 rfl (fun _ hq => db rfl pw rfl (hq.at hm)) hS <| Tw 1 (.int .i64 1) rfl rfl hS <| Tk 2 rfl (fun _ _ => e7 rfl rfl gQ Om Om) hS <| Tk 3 rfl (fun _ hq => fq rfl df (At.cell (hq.at hons) rfl) (At.cell (hq.at hons) rfl) (At.cell (hq.at hons) rfl) (At.cell (hq.at hons) rfl)) hS <| Tw 4 (.int .i64 1) rfl rfl hS <| Tk 5 rfl (fun _ _ => kU rfl rfl Om Om) hS <| Tk 6 rfl (fun _ _ => e7 rfl rfl gQ Om Om) hS <| Tk 7 rfl (fun _ hq => fq rfl df (At.cell (hq.at hmays) rfl) (At.cell (hq.at hmays) rfl) (At.cell (hq.at hmays) rfl) (At.cell (hq.at hmays) rfl)) hS <| Tw 9 (.int .i64 1) rfl rfl hS <| Tk 10 rfl (fun _ _ => e7 rfl rfl gQ Om Om) hS <| Tk 11 rfl (fun _ hq => fq rfl df (At.cell (hq.at hmays) rfl) (At.cell (hq.at hmays) rfl) (At.cell (hq.at hmays) rfl) (At.cell (hq.at hmays) rfl)) hS <| Tk 12 rfl (fun _ hq => dk (v := .int .i64 _) rfl dB (At.cell (hq.at hbi) rfl)) hS <| Tk 13 rfl (fun _ _ => dp rfl rfl Om Om) hS <| To 8 rfl (TC (vs := [.agg #[_, _, _, _], .agg #[_, _, _, _]]) wg (mB _ _ _) rfl fun aq W5 l S => ⟨.inl (hS.trans l), ?_⟩)
 replace hm := l.at hm
 replace hons := l.at hons
 replace hmays := l.at hmays
 replace hbi := l.at hbi
 replace hrest := l.at hrest
 replace hout := l.at hout
 replace hown := l.ow hown
 replace hB := dF hB l hN0
 replace hS := hS.trans l
 obtain rfl := S
 refine To 14 rfl (TC (vs := [.agg #[_, _, _, _, _], .agg #[_, _, _, _], .agg #[_, _, _, _], .int .i64 _]) ux (hih _ _ (i + 1) _ h8 (hg.side h8 hi true) hf (Nat.le_trans hf9 Dd)) rfl fun F W9 o a => ⟨.inl (hS.trans o), ?_⟩)
 have T := dh.lt2 hown
 have U := (Nat.le_trans hN0 (Below.size hB))
 replace hm := o.at hm
 replace hons := o.at hons
 replace hmays := o.at hmays
 replace hbi := o.at hbi
 replace hrest := o.at hrest
 replace hout := o.at hout
 replace hown := o.ow hown
 replace hB := dF hB o hN0
 replace hS := hS.trans o
 have Q := eO.new T a
 replace a := dh.mono a U
 have hcm : je n (dm may i true) (i + 1) (eI n f (andNot (dm on i true) (dm may i false)) (dm may i true) (i + 1)) := (kv h8 f _ _ _ (hg.side h8 hi true) hf).1
 have hcl := iI (n := n) f (andNot (dm on i true) (dm may i false)) (dm may i true) (i + 1)
 have h3f : 3 ^ f ≤ 3 ^ 8 := Nat.pow_le_pow_right (by decide) hf9
 try simp only [Bool.not_false, Bool.not_true] at a
 generalize hL : eI n f (andNot (dm on i true) (dm may i false)) (dm may i true) (i + 1) = L at *
 refine Tw 15 F rfl rfl hS <| Td <| Zd eo fun V t => ?_
 replace hm := t.at hm
 replace hons := t.at hons
 replace hmays := t.at hmays
 replace hbi := t.at hbi
 replace hrest := t.at hrest
 replace hout := t.at hout
 replace hown := t.ow hown
 replace hB := dF hB t hN0
 replace a := t.ow a
 have hS := eo.refl V
 refine Tk 0 rfl (fun _ hq => db rfl df rfl (hq.at hrest)) hS <| Tw 1 (.int .i64 1) rfl rfl hS <| Tk 2 rfl (fun _ _ => e7 rfl rfl gQ Om Om) hS <| Tk 3 rfl (fun _ hq => fq rfl df (At.cell (hq.at hons) rfl) (At.cell (hq.at hons) rfl) (At.cell (hq.at hons) rfl) (At.cell (hq.at hons) rfl)) hS <| Tk 4 rfl (fun _ hq => db rfl pw rfl (hq.at hm)) hS <| Tw 5 F rfl rfl hS <| To 6 rfl (TC (vs := [.agg #[_, _, _, _, _], F]) EH (lM n _ L _ h8 a.sl (fun c hc => ⟨(hcm c hc).1, (hcm c hc).2.1⟩) Om) rfl fun ar au e X => ⟨.inl (hS.trans e), ?_⟩)
 replace hm := e.at hm
 replace hons := e.at hons
 replace hmays := e.at hmays
 replace hbi := e.at hbi
 replace hrest := e.at hrest
 replace hout := e.at hout
 replace hown := e.ow hown
 replace hB := dF hB e hN0
 replace a := e.ow a
 replace hS := hS.trans e
 obtain rfl := X
 refine To 7 rfl (TC (vs := [.agg #[_, _, _, _], .agg #[_, _, _, _]]) wg (mB _ _ _) rfl fun av aw g Y => ⟨.inl (hS.trans g), ?_⟩)
 replace hm := g.at hm
 replace hons := g.at hons
 replace hmays := g.at hmays
 replace hbi := g.at hbi
 replace hrest := g.at hrest
 replace hout := g.at hout
 replace hown := g.ow hown
 replace hB := dF hB g hN0
 replace a := g.ow a
 replace hS := hS.trans g
 obtain rfl := Y
 refine To 8 rfl (TC (vs := [.agg #[_, _, _, _], .agg #[_, _, _, _]]) sA (rZ _ _ _) rfl fun ax ay h Z => ⟨.inl (hS.trans h), ?_⟩)
 replace hm := h.at hm
 replace hons := h.at hons
 replace hmays := h.at hmays
 replace hbi := h.at hbi
 replace hrest := h.at hrest
 replace hout := h.at hout
 replace hown := h.ow hown
 replace hB := dF hB h hN0
 replace a := h.ow a
 replace hS := hS.trans h
 obtain rfl := Z
 refine To 9 rfl (dg rfl rfl df rfl hrest rfl rfl fun az y aa => ⟨.inr (by kernel_rfl), ?_⟩)
 replace hm := At.grownAt hm hrest y Dd
 replace hons := At.grownAt hons hrest y Dd
 replace hmays := At.grownAt hmays hrest y Dd
 replace hbi := At.grownAt hbi hrest y Dd
 replace hout := At.grownAt hout hrest y Dd
 replace hown := dh.grownAt hown hrest y Dd
 replace hB := dy hB y hN0 (fun j hj => by cases hj; exact lor)
 replace a := dh.grownAt a hrest y Dd
 clear y hrest
 replace hrest := aa
 refine Td <| Zr <| Zw F rfl <| Zv (dA (v := F) rfl a.sl eZ) <| Zw (.int .i64 0) rfl <| cT <| c7 ?_
 refine dw (σ := (Nat) × (Value)) [10, 37, 38, 39, 40, 41, 42, 43, 44, 45, 46, 47, 48, 49, 50, 51, 52, 53, 54, 55, 56, 57, 58, 59] (fun (k, v2) => [(37, .int .i64 (k : Int))]) (fun sg W => match sg with | (k, v2) => (At W bm _ 157) ∧ (At W bons _ 164) ∧ (At W bmays _ 164) ∧ (At W bi _ 3) ∧ (At W brest _ 49) ∧ (Below N w W) ∧ (dh gU 2 40 W N F _) ∧ (At W bout #[v2] 66) ∧ (dh gU 2 40 W N v2 (out ++ (L.take k).map (iq i 1))) ∧ (eO v2 F) ∧ (k ≤ L.length) ∧ (True)) (fun (k, v2) => L.length - k) ((0, v0)) ⟨rfl, trivial⟩ ⟨hm, hons, hmays, hbi, hrest, hB, a, hout, (by rw [List.take_zero, List.map_nil, List.append_nil]; exact hown), Q, (Nat.zero_le _), trivial⟩ ?_
 clear hm hons hmays hbi hrest hout hown hB Q a
 rintro ⟨k, v2⟩ aA aB ⟨hm, hons, hmays, hbi, hrest, hB, a, hout, hown, hap, hk, _⟩ aC ab
 refine Zr <| Zv (dL rfl rfl) <| cT <| cY fun aD ac => ZQ rfl (fun ad => ?_) fun ad => ?_
 refine c9 <| ac _ _ <| cY fun aE ae => c7 ?_
 have hck := hcm (L.getD k ⟨0, 0⟩) (dS (by omega))
 obtain ⟨hck1, hck2, _, _⟩ := hck
 have hle256 := fT h8
 have hck3 : (L.getD k ⟨0, 0⟩).v ≤ (L.getD k ⟨0, 0⟩).m := by rw [← hck2]; exact Nat.and_le_right
 refine Zr <| Zv (dJ (v := F) rfl a.sl rfl eZ Om Ol76_0) <| Zv (ig rfl dN (dM.cell a.sl gj ⟨0, 0⟩ Om Ol76_0 0 rfl) (dM.cell a.sl gj ⟨0, 0⟩ Om Ol76_0 1 rfl)) <| Zy (dt i4 rfl fun M aF I z d => ?_)
 have O : N ≤ M := I ▸ (Nat.le_trans hN0 (Below.size hB))
 have P := dh.neB (b := M) a (Nat.le_of_eq I.symm)
 have J := dh.neB (b := M) hown (Nat.le_of_eq I.symm)
 clear I
 replace hm := z.at hm
 replace hons := z.at hons
 replace hmays := z.at hmays
 replace hbi := z.at hbi
 replace hrest := z.at hrest
 replace hB := dF hB z hN0
 replace a := z.ow a
 replace hout := z.at hout
 replace hown := z.ow hown
 refine Zy (dg rfl rfl dN rfl d rfl rfl fun aG A af => ?_)
 replace hm := At.grownAt hm d A Dd
 replace hons := At.grownAt hons d A Dd
 replace hmays := At.grownAt hmays d A Dd
 replace hbi := At.grownAt hbi d A Dd
 replace hrest := At.grownAt hrest d A Dd
 replace hB := dy hB A hN0 (fun j hj => by cases hj; exact O)
 replace a := dh.grownAtNe a P A
 replace hout := At.grownAt hout d A Dd
 replace hown := dh.grownAtNe hown J A
 replace d := af
 refine cT <| Zd eo fun ag p => ?_
 replace hm := p.at hm
 replace hons := p.at hons
 replace hmays := p.at hmays
 replace hbi := p.at hbi
 replace hrest := p.at hrest
 replace hB := dF hB p hN0
 replace a := p.ow a
 replace hout := p.at hout
 replace hown := p.ow hown
 replace d := p.at d
 have hS := eo.refl ag
 refine Tf 0 rfl rfl eQ hS <| Tk 1 rfl (fun _ hq => dk (v := .int .u8 _) rfl ef (At.cell (hq.at d) rfl)) hS <| Tk 2 rfl (fun _ hq => dk (v := .int .i64 _) rfl dB (At.cell (hq.at hbi) rfl)) hS <| Tk 3 rfl (fun _ _ => jB (m := 1) rfl rfl Om (by simp only [IntKind.bits]; omega) (by exact rO _ _ (by simp only [lN]; omega))) hS <| Tk 4 rfl (fun _ _ => Cq (n := _) rfl rfl rfl (by show (L.getD k ⟨0, 0⟩).m < 256; omega) (by exact rO _ _ (by simp only [lN]; omega))) hS <| Tf 5 rfl rfl eQ hS <| To 6 rfl (eC (v := .int .u8 _) rfl rfl ef rfl d (by simp) fun aH B ah => ⟨.inr (by kernel_rfl), ?_⟩)
 replace hm := At.grownAt hm d B Dd
 replace hons := At.grownAt hons d B Dd
 replace hmays := At.grownAt hmays d B Dd
 replace hbi := At.grownAt hbi d B Dd
 replace hrest := At.grownAt hrest d B Dd
 replace hB := dy hB B hN0 (fun j hj => by cases hj; exact O)
 replace a := dh.grownAtNe a P B
 replace hout := At.grownAt hout d B Dd
 replace hown := dh.grownAtNe hown J B
 replace d := ah
 replace d : At _ _ #[_, _] _ := d
 refine Td <| Zd eo fun ai q => ?_
 replace hm := q.at hm
 replace hons := q.at hons
 replace hmays := q.at hmays
 replace hbi := q.at hbi
 replace hrest := q.at hrest
 replace hB := dF hB q hN0
 replace a := q.ow a
 replace hout := q.at hout
 replace hown := q.ow hown
 replace d := q.at d
 have hS := eo.refl ai
 refine Tf 0 rfl rfl gr hS <| Tk 1 rfl (fun _ hq => dk (v := .int .u8 _) rfl ef (At.cell (hq.at d) rfl)) hS <| Tw 2 (.int .i64 1) rfl rfl hS <| Tk 3 rfl (fun _ _ => jt (m := 1) rfl Tryz.underlying3 Tryz.underlying5 Dd) hS <| Tk 4 rfl (fun _ hq => dk (v := .int .i64 _) rfl dB (At.cell (hq.at hbi) rfl)) hS <| Tk 5 rfl (fun _ _ => jB (m := 1) rfl rfl Om (by simp only [IntKind.bits]; omega) (by exact rO _ _ (by simp only [lN]; omega))) hS <| Tk 6 rfl (fun _ _ => Cq (n := _) rfl rfl rfl (by show (L.getD k ⟨0, 0⟩).v < 256; omega) (by exact rO _ _ (by simp only [lN]; omega))) hS <| Tf 7 rfl rfl gr hS <| To 8 rfl (eC (v := .int .u8 _) rfl rfl ef rfl d (by simp) fun aI C aj => ⟨.inr (by kernel_rfl), ?_⟩)
 replace hm := At.grownAt hm d C Dd
 replace hons := At.grownAt hons d C Dd
 replace hmays := At.grownAt hmays d C Dd
 replace hbi := At.grownAt hbi d C Dd
 replace hrest := At.grownAt hrest d C Dd
 replace hB := dy hB C hN0 (fun j hj => by cases hj; exact O)
 replace a := dh.grownAtNe a P C
 replace hout := At.grownAt hout d C Dd
 replace hown := dh.grownAtNe hown J C
 replace d := aj
 replace d : At _ _ #[_, _] _ := d
 refine Td <| cZ <| ZL v2 rfl rR hout rfl <| Zv (db rfl dN rfl d) <| Zy (fc (u := .agg #[_, _]) rfl eZ ja rfl Dd Dd fun K aJ H r ak => ?_)
 have aK : N ≤ K := H ▸ (Nat.le_trans hN0 (Below.size hB))
 have aL := dh.neB (b := K) a (Nat.le_of_eq H.symm)
 have aM := dh.neB (b := K) hown (Nat.le_of_eq H.symm)
 have aN := Zn H d.lt
 clear H
 replace hm := r.at hm
 replace hons := r.at hons
 replace hmays := r.at hmays
 replace hbi := r.at hbi
 replace hrest := r.at hrest
 replace hB := dF hB r hN0
 replace a := r.ow a
 replace hout := r.at hout
 replace hown := r.ow hown
 replace d := r.at d
 refine Zy (jr (v := v2) (v2 := .slice (some ⟨K, 0, none⟩) 1 1) rfl rfl eZ ja Dd hown (fG ak rfl) rfl (by have := Below.size hB; omega) (by first | omega | (simp; omega) | (simp only [cV, cW, cX, da]; omega)) (by first | omega | (simp; omega) | (simp only [cV, cW, cX, da]; omega)) fun R aO D G al => ?_)
 have ao := eO.app hap al a
 replace G := dh.snoc (enc := gU) (x := ⟨_, _⟩) rfl rfl rfl rfl G
 replace hm := At.grownOw hm hown D Dd
 replace hons := At.grownOw hons hown D Dd
 replace hmays := At.grownOw hmays hown D Dd
 replace hbi := At.grownOw hbi hown D Dd
 replace hrest := At.grownOw hrest hown D Dd
 replace hB := dy hB D hN0 (fun j hj => (dh.lt hown j hj))
 replace a := dh.grownAp a hap D
 replace hout := At.grownOw hout hown D Dd
 replace d := At.grownOwNe d J D
 clear hown
 refine Zy (eC (v := R) rfl rfl rR (dM.one G.sl) hout (by simp) fun aP s ap => ?_)
 replace hm := At.grownAt hm hout s Dd
 replace hons := At.grownAt hons hout s Dd
 replace hmays := At.grownAt hmays hout s Dd
 replace hbi := At.grownAt hbi hout s Dd
 replace hrest := At.grownAt hrest hout s Dd
 replace hB := dy hB s hN0 (fun j hj => by cases hj; exact loo)
 replace a := dh.grownAt a hout s Dd
 replace d := At.grownAt d hout s Dd
 replace G := dh.grownAt G hout s Dd
 clear s hout
 replace hout := ap
 replace hout : At _ _ #[_] _ := hout
 refine cT <| ae _ _ <| cZ <| Zv (dp rfl rfl Om Om) <| Zi rfl <| cT ?_
 exact ab _ _ ((k + 1, R)) Za ⟨rfl, trivial⟩ ⟨hm, hons, hmays, hbi, hrest, hB, a, hout, (by rw [AV Om, ← List.append_assoc]; exact G), ao, Om, trivial⟩ (by show L.length - (k + 1) < L.length - k; omega)
 refine dr ?_
 repeat (first | refine oK ?_ | refine nc ?_)
 refine m9 ?_
 repeat (first | refine j6 ?_ | refine jp ?_)
 refine HP ?_
 have hkL : k = L.length := by omega
 rw [hkL, List.take_length] at hown
 exact ⟨hB, hm, hons, hmays, hbi, hrest, _, hout, hown⟩
theorem Hs (n f i on may : Nat) (w : World) (hih : ∀ (on may i : Nat) (w : World), n ≤ 8 → mQ n on may i → n + 1 - i ≤ f → f ≤ 9 → Fn Tryz.prog 113 #[.agg #[.int .i64 (n : Int), wv (fj n) 0, wv (fj n) 1, wv (fj n) 2, wv (fj n) 3], eP on, eP may, .int .i64 (i : Int)] w fun v w' => dh gU 2 40 w' w.heap.size v (eI n f on may i)) (h8 : n ≤ 8) (hg : mQ n on may i) (hf : n + 1 - i ≤ f + 1) (hf9 : f + 1 ≤ 9) :
    Fn Tryz.prog 113 #[.agg #[.int .i64 (n : Int), wv (fj n) 0, wv (fj n) 1, wv (fj n) 2, wv (fj n) 3], eP on, eP may, .int .i64 (i : Int)] w fun v w' => dh gU 2 40 w' w.heap.size v (eI n (f + 1) on may i) := by
 refine dq (n := 61) Tryz.func113 rfl rfl (Nat.le_of_ble_eq_true rfl) ?_
 have hB : Below w.heap.size w w := Below.refl _ _
 refine Zr <| Zy (dU (c := #[_, _, _, _, _]) rfl rfl fun A W3 ab aq e => ?_)
 have aT := ZO ab hB
 clear ab
 replace hB := Ze hB aq
 refine Zy (dU (c := #[_, _, _, _]) rfl rfl fun ar W6 ac ad l => ?_)
 have aU := ZO ac hB
 clear ac
 replace hB := Ze hB ad
 replace e := ad.at e
 refine Zy (dU (c := #[_, _, _, _]) rfl rfl fun au W9 V X m => ?_)
 have aV := ZO V hB
 have aW := Zn V l.lt
 clear V
 replace hB := Ze hB X
 replace e := X.at e
 replace l := X.at l
 refine Zy (dU (c := #[_]) rfl rfl fun B aX ae R j => ?_)
 have aY := ZO ae hB
 clear ae
 replace hB := Ze hB R
 replace e := R.at e
 replace l := R.at l
 replace m := R.at m
 refine Zw (.slice none 0 0) rfl <| cT <| cY fun aZ av => c7 <| Zr <| Zv (db rfl df rfl l) <| Zv (v := eP 0) (gD ) <| Zv (rD rfl rfl) <| Zb rfl <| cT <| ZQ rfl (fun S => ?_) fun S => ?_
 refine Zr <| Zw (.slice none 0 0) rfl <| cT <| Zt <| dE (v := .slice none 0 0) rfl ⟨hB, ?_⟩
 rw [eI, if_pos (uv S)]
 exact dh.nil
 refine Zr <| Zv (db rfl df rfl m) <| Zf rfl Cf <| Zv (fq rfl df (At.cell e rfl) (At.cell e rfl) (At.cell e rfl) (At.cell e rfl)) <| Zv (rD rfl rfl) <| Zb rfl <| cT <| ZQ rfl (fun Y => ?_) fun Y => ?_
 refine Zr <| Zv (tK ) <| Zy (fc (u := .agg #[_, _]) rfl eZ ja rfl Dd Dd fun af a0 ag P aw => ?_)
 have ax := ZO ag hB
 clear ag
 replace hB := Ze hB P
 replace e := P.at e
 replace l := P.at l
 replace m := P.at m
 replace j := P.at j
 refine Zw (.slice (some ⟨af, 0, none⟩) 1 1) rfl <| cT <| Zt <| dE (v := .slice (some ⟨af, 0, none⟩) 1 1) rfl ⟨hB, ?_⟩
 rw [eI, if_neg (fun h => S (rQ h)), if_pos (uv Y)]
 exact ix (enc := gU) (a := ⟨0, 0⟩) aw rfl rfl ax
 refine c9 <| av _ _ ?_
 have h0 : ¬ wR on 0 = true := fun h => S (rQ h)
 have h1 : ¬ wR may (fj n) = true := fun h => Y (rQ h)
 have hi : i < n := LW h8 hg h0 h1
 have hf1 : n + 1 - (i + 1) ≤ f := by omega
 have hi8 : i < 8 := by omega
 refine Zr <| Zy (dt uj rfl fun o a1 ah Q g => ?_)
 have ay := ZO ah hB
 clear ah
 replace hB := Ze hB Q
 replace e := Q.at e
 replace l := Q.at l
 replace m := Q.at m
 replace j := Q.at j
 refine Zy (dt uj rfl fun C a2 Z N d => ?_)
 have az := ZO Z hB
 have ai := Zn Z g.lt
 clear Z
 replace hB := Ze hB N
 replace e := N.at e
 replace l := N.at l
 replace m := N.at m
 replace j := N.at j
 replace g := N.at g
 refine cT <| cY fun a3 aA => ?_
 replace g := sU (s := on) (i := i) g
 replace d := sU (s := may) (i := i) d
 refine Zr <| Zw (.int .i64 0) rfl <| cT <| c7 ?_
 refine dw (σ := (Nat)) [11, 26, 27, 28, 29, 30, 31, 32, 33, 34, 35, 36, 37, 38, 39, 40, 41, 42, 43] (fun k => [(26, .int .i64 (k : Int))]) (fun k W => (Below w.heap.size w W) ∧ (At W A _ 157) ∧ (At W ar _ 49) ∧ (At W au _ 49) ∧ (At W B _ 3) ∧ (At W o (ni on i k) 164) ∧ (At W C (ni may i k) 164) ∧ (k ≤ 2) ∧ (True)) (fun k => 2 - k) (0) ⟨rfl, trivial⟩ ⟨hB, e, l, m, j, g, d, (Nat.zero_le _), trivial⟩ ?_
 clear hB e l m j g d
 rintro k a4 a5 ⟨hB, e, l, m, j, g, d, hk, _⟩ a6 aB
 refine Zr <| Zv (dL rfl rfl) <| cT <| cY fun a7 aC => ZQ rfl (fun aD => ?_) fun aD => ?_
 refine c9 <| aC _ _ <| cY fun a8 aE => c7 <| Zr <| Zi rfl <| Zi rfl <| cT ?_
 refine gx (fun a b => a.grownBy b (some o)) im (fun aF L => ?_)
 replace hB := Ze hB L
 replace e := L.at e
 replace l := L.at l
 replace m := L.at m
 replace j := L.at j
 replace g := L.at g
 replace d := L.at d
 have T := g
 have hS := World.grownBy.refl aF (some o)
 refine Ti 0 rfl rfl hS <| Ti 1 rfl rfl hS <| Tk 2 rfl (fun _ hq => db rfl df rfl (At.grownAt l T hq Dd)) hS <| Tk 3 rfl (fun _ hq => dk (v := .int .i64 _) rfl dB (At.cell (At.grownAt j T hq Dd) rfl)) hS <| Ti 4 rfl rfl hS <| Tk 5 rfl (fun _ _ => eB rfl rfl) hS <| Tk 7 rfl (fun _ hq => db rfl df rfl (At.grownAt m T hq Dd)) hS <| Tk 8 rfl (fun _ hq => dk (v := .int .i64 _) rfl dB (At.cell (At.grownAt j T hq Dd) rfl)) hS <| Ti 9 rfl rfl hS <| Tk 10 rfl (fun _ _ => eB rfl rfl) hS <| To 6 rfl (TC (vs := [.agg #[_, _, _, _], .int .i64 _, .bool _]) ET (tE _ _ _ _) rfl fun a9 ba D aG => ⟨.inl (dD hS (eo.grown D (some o))), ?_⟩)
 replace hB := Ze hB D
 replace e := D.at e
 replace l := D.at l
 replace m := D.at m
 replace j := D.at j
 replace g := D.at g
 replace d := D.at d
 replace hS := dD hS (eo.grown D (some o))
 obtain rfl := aG
 rw [if_pos (show 0 ≤ (i : Int) ∧ (i : Int) < 8 by omega)]
 simp only [Int.toNat_natCast]
 refine Tk 12 rfl (fun _ _ => e7 rfl rfl gQ Om Om) hS <| To 11 rfl (TC (vs := [.agg #[_, _, _, _], .int .i64 _, .bool _]) ET (tE _ _ _ _) rfl fun bb bc E aH => ⟨.inl (dD hS (eo.grown E (some o))), ?_⟩)
 replace hB := Ze hB E
 replace e := E.at e
 replace l := E.at l
 replace m := E.at m
 replace j := E.at j
 replace g := E.at g
 replace d := E.at d
 replace hS := dD hS (eo.grown E (some o))
 obtain rfl := aH
 rw [if_pos (show 0 ≤ (i : Int) ∧ (i : Int) < 8 by omega)]
 simp only [Int.toNat_natCast]
 refine To 13 rfl (vP rfl rfl df rfl g (by rw [pi]; omega) rfl fun bd G aI => ⟨.inl (dD hS G), ?_⟩)
 replace hS := dD hS G
 replace hB := Zg hB G ay
 replace e := At.grownAt e g G Dd
 replace l := At.grownAt l g G Dd
 replace m := At.grownAt m g G Dd
 replace j := At.grownAt j g G Dd
 replace d := At.grownNe d (Ne.symm ai) G
 replace g := aI
 try simp only [Int.toNat_natCast] at g
 rw [rb (by omega)] at g
 refine Tk 14 rfl (fun _ _ => e7 rfl rfl gQ Om Om) hS <| To 15 rfl (vP rfl rfl df rfl d (by rw [pi]; omega) rfl fun bf O aJ => ⟨.inr (by kernel_rfl), ?_⟩)
 replace hB := Zg hB O az
 replace e := At.grownAt e d O Dd
 replace l := At.grownAt l d O Dd
 replace m := At.grownAt m d O Dd
 replace j := At.grownAt j d O Dd
 replace g := At.grownNe g ai O
 replace d := aJ
 try simp only [Int.toNat_natCast] at d
 rw [rb (by omega)] at d
 refine Td <| aE _ _ <| cZ <| Zv (dp rfl rfl Om Om) <| Zi rfl <| cT ?_
 exact aB _ _ (k + 1) Za ⟨rfl, trivial⟩ ⟨hB, e, l, m, j, (by exact g), (by exact d), Om, trivial⟩ Zo
 refine dr <| aA _ _ ?_
 obtain rfl : k = 2 := by omega
 replace g : At _ _ (mJ (dm on i false) (dm on i true)) _ := g
 replace d : At _ _ (mJ (dm may i false) (dm may i true)) _ := d
 refine Zr <| Zy (dt OW rfl fun H bg aj M p => ?_)
 have ak := ZO aj hB
 clear aj
 replace hB := Ze hB M
 replace e := M.at e
 replace l := M.at l
 replace m := M.at m
 replace j := M.at j
 replace g := M.at g
 replace d := M.at d
 refine cT <| Zr <| Zy (dt eM rfl fun F aK U I r => ?_)
 have al := ZO U hB
 have bh := Zn U l.lt
 have bi := Zn U m.lt
 clear U
 replace hB := Ze hB I
 replace e := I.at e
 replace l := I.at l
 replace m := I.at m
 replace j := I.at j
 replace g := I.at g
 replace d := I.at d
 replace p := I.at p
 replace r : At aK F #[wv 0 0, wv 0 1, wv 0 2, wv 0 3] 49 := r
 refine cT <| Zr <| Zv (gV (vs := #[.pointer (some ⟨A, 0, none⟩), .pointer (some ⟨o, 0, none⟩), .pointer (some ⟨C, 0, none⟩), .pointer (some ⟨B, 0, none⟩), .pointer (some ⟨F, 0, none⟩), .pointer (some ⟨H, 0, none⟩)]) (by simp only [List.map_toArray, List.map_cons, List.map_nil]; rfl)) <| Zw (.func (.func 128) #[] #[.pointer (some ⟨A, 0, none⟩), .pointer (some ⟨o, 0, none⟩), .pointer (some ⟨C, 0, none⟩), .pointer (some ⟨B, 0, none⟩), .pointer (some ⟨F, 0, none⟩), .pointer (some ⟨H, 0, none⟩)]) rfl <| cT ?_
 have hca := (kv h8 f _ _ _ (hg.side h8 hi false) hf1)
 have hcb := (kv h8 f _ _ _ (hg.side h8 hi true) hf1)
 have hgr := hg.rest h8 hi hca.1 hcb.1 hca.2 hcb.2
 have hla := iI (n := n) f (andNot (dm on i false) (dm may i true)) (dm may i false) (i + 1)
 have hlb := iI (n := n) f (andNot (dm on i true) (dm may i false)) (dm may i true) (i + 1)
 have h3f : 3 ^ f ≤ 3 ^ 8 := Nat.pow_le_pow_right (by decide) (by omega)
 refine Zr <| Zw (.func (.func 128) #[] #[.pointer (some ⟨A, 0, none⟩), .pointer (some ⟨o, 0, none⟩), .pointer (some ⟨C, 0, none⟩), .pointer (some ⟨B, 0, none⟩), .pointer (some ⟨F, 0, none⟩), .pointer (some ⟨H, 0, none⟩)]) rfl ?_
 refine mG (dd := some 46) rfl rfl rfl (jV (q := 128) (first := #[]) (cap := #[.pointer (some ⟨A, 0, none⟩), .pointer (some ⟨o, 0, none⟩), .pointer (some ⟨C, 0, none⟩), .pointer (some ⟨B, 0, none⟩), .pointer (some ⟨F, 0, none⟩), .pointer (some ⟨H, 0, none⟩)]) (vs := #[.int .i64 0, .pointer (some ⟨A, 0, none⟩), .pointer (some ⟨o, 0, none⟩), .pointer (some ⟨C, 0, none⟩), .pointer (some ⟨B, 0, none⟩), .pointer (some ⟨F, 0, none⟩), .pointer (some ⟨H, 0, none⟩)]) rfl Ep (by simp only [List.map_toArray, List.map_cons, List.map_nil, List.append_toArray, List.nil_append, List.cons_append]; rfl)) (QX n f i on may w.heap.size _ _ _ _ _ _ 0 _ [] _ (Below.size hB) hih h8 hg hi hf1 Om e g d j r p dh.nil (by simp) al ak) (fun bj bk aL => ?_)
 obtain ⟨hBt, e, g, d, j, r, vt0, p, hot0⟩ := aL
 replace hB := Below.trans hB hBt
 clear hBt
 refine cT <| Zr <| Zw (.func (.func 128) #[] #[.pointer (some ⟨A, 0, none⟩), .pointer (some ⟨o, 0, none⟩), .pointer (some ⟨C, 0, none⟩), .pointer (some ⟨B, 0, none⟩), .pointer (some ⟨F, 0, none⟩), .pointer (some ⟨H, 0, none⟩)]) rfl ?_
 refine mG (dd := some 48) rfl rfl rfl (jV (q := 128) (first := #[]) (cap := #[.pointer (some ⟨A, 0, none⟩), .pointer (some ⟨o, 0, none⟩), .pointer (some ⟨C, 0, none⟩), .pointer (some ⟨B, 0, none⟩), .pointer (some ⟨F, 0, none⟩), .pointer (some ⟨H, 0, none⟩)]) (vs := #[.int .i64 1, .pointer (some ⟨A, 0, none⟩), .pointer (some ⟨o, 0, none⟩), .pointer (some ⟨C, 0, none⟩), .pointer (some ⟨B, 0, none⟩), .pointer (some ⟨F, 0, none⟩), .pointer (some ⟨H, 0, none⟩)]) rfl Ep (by simp only [List.map_toArray, List.map_cons, List.map_nil, List.append_toArray, List.nil_append, List.cons_append]; rfl)) (Q3 n f i on may w.heap.size _ _ _ _ _ _ _ _ _ _ (Below.size hB) hih h8 hg hi hf1 Om e g d j r p hot0 (by simp; omega) al ak) (fun bl bm aM => ?_)
 obtain ⟨hBt, e, g, d, j, r, vt1, p, hot1⟩ := aM
 replace hB := Below.trans hB hBt
 clear hBt hot0
 refine cT <| Zd (fun a b => a.grownBy b vt1.ownBlock) fun aN J => ?_
 replace hB := Ze hB J
 replace e := J.at e
 replace j := J.at j
 replace g := J.at g
 replace d := J.at d
 replace p := J.at p
 replace r := J.at r
 replace hot1 := J.ow hot1
 have t := hot1
 have hS := World.grownBy.refl aN vt1.ownBlock
 refine Tk 0 rfl (fun _ hq => dk (v := vt1) rfl rR (At.cell (At.grownOw p t hq Dd) rfl)) hS <| Tk 1 rfl (fun _ hq => db rfl pw rfl (At.grownOw e t hq Dd)) hS <| Tk 2 rfl (fun _ hq => db rfl df rfl (At.grownOw r t hq Dd)) hS <| Tk 3 rfl (fun _ _ => e7 rfl rfl gQ Om Om) hS <| Tk 4 rfl (fun _ hq => fq rfl df (At.cell (At.grownOw d t hq Dd) rfl) (At.cell (At.grownOw d t hq Dd) rfl) (At.cell (At.grownOw d t hq Dd) rfl) (At.cell (At.grownOw d t hq Dd) rfl)) hS <| Tk 5 rfl (fun _ _ => e7 rfl rfl gQ Om Om) hS <| Tk 6 rfl (fun _ hq => fq rfl df (At.cell (At.grownOw d t hq Dd) rfl) (At.cell (At.grownOw d t hq Dd) rfl) (At.cell (At.grownOw d t hq Dd) rfl) (At.cell (At.grownOw d t hq Dd) rfl)) hS <| Tk 8 rfl (fun _ hq => dk (v := .int .i64 _) rfl dB (At.cell (At.grownOw j t hq Dd) rfl)) hS <| Tk 9 rfl (fun _ _ => dp rfl rfl Om Om) hS <| To 7 rfl (TC (vs := [.agg #[_, _, _, _], .agg #[_, _, _, _]]) tt (qs _ _ _) rfl fun bn bo x aO => ⟨.inl (dD hS (eo.grown x vt1.ownBlock)), ?_⟩)
 replace hB := Ze hB x
 replace e := x.at e
 replace j := x.at j
 replace g := x.at g
 replace d := x.at d
 replace p := x.at p
 replace r := x.at r
 replace hot1 := x.ow hot1
 replace hS := dD hS (eo.grown x vt1.ownBlock)
 obtain rfl := aO
 refine To 10 rfl (TC (vs := [.agg #[_, _, _, _, _], .agg #[_, _, _, _], .agg #[_, _, _, _], .int .i64 _]) ux (hih _ _ (i + 1) _ h8 hgr hf1 (Nat.le_trans (Nat.le_succ f) hf9)) rfl fun aP bp y K => ⟨.inl (dD hS (eo.grown y vt1.ownBlock)), ?_⟩)
 have aQ := dh.lt2 hot1
 have aR := (Below.size hB)
 replace hB := Ze hB y
 replace e := y.at e
 replace j := y.at j
 replace g := y.at g
 replace d := y.at d
 replace p := y.at p
 replace r := y.at r
 replace hot1 := y.ow hot1
 replace hS := dD hS (eo.grown y vt1.ownBlock)
 have ao := eO.new aQ K
 replace K := dh.mono K aR
 try simp only [Bool.not_false, Bool.not_true] at K
 have hlc := iI (n := n) f (se n (dm on i false) (dm on i true) (eI n f (andNot (dm on i false) (dm may i true)) (dm may i false) (i + 1)) (eI n f (andNot (dm on i true) (dm may i false)) (dm may i true) (i + 1))) (dm may i false &&& dm may i true) (i + 1)
 refine To 11 rfl (jr (v := vt1) (v2 := aP) rfl rfl eZ ja Dd hot1 K.sl (ol) (by have := Below.size hB; omega) (by simp only [List.nil_append, List.length_append, List.length_map, Nat.zero_or]; have hlc2 := hlc; unfold se at hlc2; omega) (by simp only [List.nil_append, List.length_append, List.length_map, Nat.zero_or]; have hlc2 := hlc; unfold se at hlc2; omega) fun ap bq z aa aS => ⟨.inl (dD hS z), ?_⟩)
 replace hS := dD hS z
 have br := eO.app ao aS K
 replace aa := dh.app (enc := gU) rfl rfl rfl rfl aa
 replace hB := ZG hB z hot1
 replace e := At.grownOw e hot1 z Dd
 replace j := At.grownOw j hot1 z Dd
 replace g := At.grownOw g hot1 z Dd
 replace d := At.grownOw d hot1 z Dd
 replace p := At.grownOw p hot1 z Dd
 replace r := At.grownOw r hot1 z Dd
 replace K := dh.grownAp K ao z
 clear hot1
 refine Tw 12 ap rfl rfl hS <| Td <| Zt <| dE (v := ap) rfl ⟨hB, ?_⟩
 rw [eI, if_neg h0, if_neg h1]
 exact aa
end
section
open Go Go.RowKit
theorem Ko : eL Tryz.prog 157 = some (.agg #[.int .i64 0, .int .u64 0, .int .u64 0, .int .u64 0, .int .u64 0]) := by kernel_rfl
theorem FU : (Tryz.prog.info? 49).map (·.size) = some 4 := by kernel_rfl
theorem tZ {f : Nat → Value} {w : World} {d : Option Nat} {ty : TypeId} {ps : String} {af : Array Edge} {g : Option (Nat × Bool)} {x0 x1 : Operand} {c0_0 c1_0 c1_1 c1_2 c1_3 : Value} (h0 : dO f x0 = c0_0) (k0 : c0_0.cells = #[c0_0]) (h1 : dO f x1 = .agg #[c1_0, c1_1, c1_2, c1_3]) :
    (execOp (dO f) ⟨d, .build 157 #[(0, x0), (1, x1)], ty, ps, af, g⟩).run Tryz.prog w = .ok (.value (.agg #[c0_0, c1_0, c1_1, c1_2, c1_3])) w := by
  obtain ⟨i0, hi0, hz0⟩ := Option.bind_eq_some_iff.1 (show (Tryz.prog.info? 157).bind (·.zero) = _ from Ko)
  obtain ⟨j3, hj3, hs3⟩ := Option.map_eq_some_iff.1 ik
  obtain ⟨j49, hj49, hs49⟩ := Option.map_eq_some_iff.1 FU
  simp [execOp, h0, k0, h1, Instr.build, zeroValue, typeInfo, sizeOf, hi0, hz0, run_underlying Tryz.underlying157, Instr.fill, eW, hj3, hs3, hj49, hs49]
theorem Nr : dC Tryz.prog 86 = true := by kernel_rfl
theorem NU : dC Tryz.prog 87 = true := by kernel_rfl
theorem EC (n : Nat) : ∀ (f : Nat), ∀ (on may i : Nat) (w : World), n ≤ 8 → mQ n on may i → n + 1 - i ≤ f → f ≤ 9 → Fn Tryz.prog 113 #[.agg #[.int .i64 (n : Int), wv (fj n) 0, wv (fj n) 1, wv (fj n) 2, wv (fj n) 3], eP on, eP may, .int .i64 (i : Int)] w fun v w' => dh gU 2 40 w' w.heap.size v (eI n f on may i)
  | 0, on, may, i, w, _, hg, hf, _ => by have := hg.le; omega
  | f + 1, on, may, i, w, h8, hg, hf, hf9 => Hs n f i on may w (EC n f) h8 hg hf hf9
theorem zu (on may : Nat) (n : Int) (w : World) :
    Fn Tryz.prog 86 #[eP on, eP may, .int .i64 n] w fun v w' => if xT on may n = true then ∃ x, v = .tuple #[x, .int .i64 0] ∧ dh gU 2 40 w' w.heap.size x (i9 on may n) else v = .tuple #[.slice none 0 0, .int .i64 1] := by
 refine dq (n := 35) Tryz.func86 rfl rfl (Nat.le_of_ble_eq_true rfl) ?_
 have hB : Below w.heap.size w w := Below.refl _ _
 refine Zr <| Zy (dU (c := #[_, _, _, _]) rfl rfl fun K W3 s y a => ?_)
 have L := ZO s hB
 clear s
 replace hB := Ze hB y
 refine Zy (dU (c := #[_, _, _, _]) rfl rfl fun M W6 k t b => ?_)
 have N := ZO k hB
 have O := Zn k a.lt
 clear k
 replace hB := Ze hB t
 replace a := t.at a
 refine Zw (.slice none 0 0) rfl <| Zw (.int .i64 0) rfl <| cT <| Zr <| Zi rfl <| ZC wF (nR _ _) rfl fun P Q l z => ?_
 replace hB := Ze hB l
 replace a := l.at a
 replace b := l.at b
 obtain ⟨sa, er, rfl, hhP1_1⟩ := qi z
 refine Zw (.tuple #[.agg #[_, _, _, _], .int .i64 _]) rfl <| Zv (dI rfl) <| Zv (dK rfl) <| Zy (dt eM rfl fun A B e m d => ?_)
 have C := ZO e hB
 have D := Zn e a.lt
 have E := Zn e b.lt
 clear e
 replace hB := Ze hB m
 replace a := m.at a
 replace b := m.at b
 replace d : At B A #[wv 0 0, wv 0 1, wv 0 2, wv 0 3] 49 := d
 refine Zy (dg rfl rfl df rfl d rfl rfl fun R o F => ?_)
 replace hB := Zg hB o C
 replace a := At.grownNe a D o
 replace b := At.grownNe b E o
 replace d := F
 refine Zi rfl <| cT <| cY fun S G => Zr <| Zi rfl <| Zv (f7 rfl rfl) <| ZX rfl (fun f => ?_) fun f => ?_
 refine Zs <| Zs <| Zs <| Zs <| Zw (.bool true) rfl <| Zw (.bool true) rfl <| Zs <| Zs <| Zs <| Zs <| Zw (.bool true) rfl <| cT <| dz rfl <| Zr ?_
 refine Zw (.slice none 0 0) rfl <| Zw (.int .i64 1) rfl <| cT <| Zt <| dZ (v := .slice none 0 0) rfl (v1 := .int .i64 1) rfl ⟨hB, ?_⟩
 rw [if_neg (K2 hhP1_1 f)]
 refine Zv (db rfl df rfl a) <| Zv (db rfl df rfl b) <| ZC (vs := [.agg #[_, _, _, _], .agg #[_, _, _, _]]) pL (ij _ _ _) rfl fun T U g H => ?_
 replace hB := Ze hB g
 replace a := g.at a
 replace b := g.at b
 replace d := g.at d
 obtain rfl := H
 refine Zv (fy rfl) <| Zb rfl <| ZX rfl (fun p => ?_) fun p => ?_
 refine Zs <| Zs <| Zs <| Zs <| Zw (.bool true) rfl <| cT <| dz rfl <| Zr <| Zw (.slice none 0 0) rfl <| Zw (.int .i64 1) rfl <| cT <| Zt <| dZ (v := .slice none 0 0) rfl (v1 := .int .i64 1) rfl ⟨hB, ?_⟩
 rw [if_neg (Li p)]
 refine Zv (db rfl df rfl b) <| Zv (db rfl df rfl d) <| ZC (vs := [.agg #[_, _, _, _], .agg #[_, _, _, _]]) pL (ij _ _ _) rfl fun V W i I => ?_
 replace hB := Ze hB i
 replace a := i.at a
 replace b := i.at b
 replace d := i.at d
 obtain rfl := I
 refine Zv (fy rfl) <| Zb rfl <| cT <| ZQ rfl (fun q => ?_) fun q => ?_
 refine Zr <| Zw (.slice none 0 0) rfl <| Zw (.int .i64 1) rfl <| cT <| Zt <| dZ (v := .slice none 0 0) rfl (v1 := .int .i64 1) rfl ⟨hB, ?_⟩
 rw [if_neg (Ku hhP1_1 f q)]
 refine c9 <| G _ _ ?_
 have hok : xT on may n = true := Nl hhP1_1 f p q
 obtain ⟨h0, h8, rfl, rfl⟩ := hhP1_1.resolve_right (fun h => h.1 (jY (jI.1 hok).1))
 obtain ⟨n, rfl⟩ := Int.eq_ofNat_of_zero_le h0
 obtain ⟨hok8, hok9⟩ := za hok
 refine Zr <| Zi rfl <| Zv (db rfl df rfl d) <| Zv (tZ (h0 := rfl) (k0 := rfl) (h1 := rfl) (c0_0 := .int .i64 _)) <| Zv (db rfl df rfl a) <| Zv (db rfl df rfl b) <| ZC (vs := [.agg #[_, _, _, _, _], .agg #[_, _, _, _], .agg #[_, _, _, _], .int .i64 0]) ux (EC n (n + 1) on may 0 _ hok8 hok9 Om Om) rfl fun u X j r => ?_
 have J := (Below.size hB)
 replace hB := Ze hB j
 replace a := j.at a
 replace b := j.at b
 replace d := j.at d
 replace r := dh.mono r J
 refine Zw u rfl <| Zw (.int .i64 0) rfl <| cT <| Zt <| dZ (v := u) rfl (v1 := .int .i64 0) rfl ⟨hB, ?_⟩
 rw [if_pos hok]
 exact ⟨_, rfl, r⟩
theorem zL (on may : Nat) (n : Int) (w : World) :
    Fn Tryz.prog 46 #[eP on, eP may, .int .i64 n] w fun v w' => if xT on may n = true then ∃ x, v = .tuple #[x, .int .i64 0] ∧ dh gU 2 40 w' w.heap.size x (Cg may n (i9 on may n)) else v = .tuple #[.slice none 0 0, .int .i64 1] := by
 refine dq (n := 52) Tryz.func46 rfl rfl (Nat.le_of_ble_eq_true rfl) ?_
 have hB : Below w.heap.size w w := Below.refl _ _
 refine Zr <| Zy (dU (c := #[_, _, _, _]) rfl rfl fun T W3 I U f => ?_)
 have ar := ZO I hB
 clear I
 replace hB := Ze hB U
 refine Zy (dU (c := #[_, _, _, _]) rfl rfl fun V W6 E J g => ?_)
 have au := ZO E hB
 have av := Zn E f.lt
 clear E
 replace hB := Ze hB J
 replace f := J.at f
 refine Zw (.slice none 0 0) rfl <| Zw (.int .i64 0) rfl <| cT <| Zr <| Zv (db rfl df rfl f) <| Zv (db rfl df rfl g) <| Zi rfl <| ZC (vs := [.agg #[_, _, _, _], .agg #[_, _, _, _], .int .i64 _]) Nr (zu _ _ _ _) rfl fun aw ax F X => ?_
 have Y := (Below.size hB)
 replace hB := Ze hB F
 replace f := F.at f
 replace g := F.at g
 obtain ⟨x_hP1_3, er_hP1_3, l_hP1_3, rfl, ho_hP1_3, hc_hP1_3⟩ := EL X
 replace ho_hP1_3 := dh.mono ho_hP1_3 Y
 refine Zw (.tuple #[x_hP1_3, .int .i64 _]) rfl <| Zv (dI rfl) <| Zv (dK rfl) <| Zw x_hP1_3 rfl <| Zi rfl <| cT <| cY fun ay Z => Zr <| Zi rfl <| Zv (f7 rfl rfl) <| cT <| ZQ rfl (fun G => ?_) fun G => ?_
 refine Zr <| Zi rfl <| Zw (.slice none 0 0) rfl <| Zi rfl <| cT <| Zt <| dZ (v := .slice none 0 0) rfl (v1 := .int .i64 _) rfl ⟨hB, ?_⟩
 obtain ⟨hno, hee⟩ := M7 hc_hP1_3 G
 rw [if_neg hno, hee]
 refine c9 <| Z _ _ ?_
 obtain ⟨hok, hleq⟩ := Jt hc_hP1_3 G
 subst hleq
 have hll := BA (on := on) (may := may) (jY (jI.1 hok).1).2
 refine Zr <| Zy (gE (enc := iC) (encV := Value.bool) fun A az K B e => ?_)
 have aa := ZO K hB
 clear K
 replace hB := Ze hB B
 replace f := B.at f
 replace g := B.at g
 replace ho_hP1_3 := B.ow ho_hP1_3
 replace e : dR iC Value.bool _ _ (ft []) := e
 refine Zw (.map (some A)) rfl <| cT <| Zr <| Zw (.slice none 0 0) rfl <| cT <| cY fun aA ab => Zr <| Zw x_hP1_3 rfl <| Zv (dA (v := x_hP1_3) rfl ho_hP1_3.sl eZ) <| Zw (.int .i64 0) rfl <| cT <| c7 ?_
 refine dw (σ := (Nat) × (Value)) [11, 13, 14, 15, 29, 30, 31, 32, 33, 34, 35, 36, 37, 38, 39, 40, 41, 42, 43, 44, 45, 46, 47, 48, 49, 50] (fun (k, v0) => [(29, .int .i64 (k : Int)), (11, v0)]) (fun sg W => match sg with | (k, v0) => (Below w.heap.size w W) ∧ (At W T _ 49) ∧ (At W V _ 49) ∧ (dh gU 2 40 W w.heap.size x_hP1_3 _) ∧ (dR iC Value.bool W A (ft (iL may n (i9 on may n) k))) ∧ (eO v0 x_hP1_3) ∧ (dh gU 2 40 W w.heap.size v0 (iL may n (i9 on may n) k)) ∧ (k ≤ (i9 on may n).length) ∧ (True)) (fun (k, v0) => (i9 on may n).length - k) ((0, .slice none 0 0)) ⟨rfl, rfl, trivial⟩ ⟨hB, f, g, ho_hP1_3, e, eO.nilL, dh.nil, (Nat.zero_le _), trivial⟩ ?_
 clear hB f g ho_hP1_3 e
 rintro ⟨k, v0⟩ aB aC ⟨hB, f, g, ho_hP1_3, e, hap, ho, hk, _⟩ aD L
 refine Zr <| Zv (dL rfl rfl) <| cT <| cY fun aE ac => ZQ rfl (fun ad => ?_) fun ad => ?_
 refine c9 <| ac _ _ <| cY fun aF M => c7 <| Zr <| Zv (dJ (v := x_hP1_3) rfl ho_hP1_3.sl rfl eZ Om (by first | omega | (simp only [cV, cW, cX, da, de]; omega))) <| Zv (ig rfl dN (dM.cell ho_hP1_3.sl gj ⟨0, 0⟩ Om (by first | omega | (simp only [cV, cW, cX, da, de]; omega)) 0 rfl) (dM.cell ho_hP1_3.sl gj ⟨0, 0⟩ Om (by first | omega | (simp only [cV, cW, cX, da, de]; omega)) 1 rfl)) <| Zy (dt i4 rfl fun N aG C s h => ?_)
 have ae := ZO C hB
 have af := dh.neB (b := N) ho_hP1_3 (Nat.le_of_eq C.symm)
 have O := dh.neB (b := N) ho (Nat.le_of_eq C.symm)
 clear C
 replace hB := Ze hB s
 replace f := s.at f
 replace g := s.at g
 replace ho_hP1_3 := s.ow ho_hP1_3
 replace e := s.mapT e
 replace ho := s.ow ho
 refine Zy (dg rfl rfl dN rfl h rfl rfl fun aH t ag => ?_)
 replace hB := Zg hB t ae
 replace f := At.grownAt f h t Dd
 replace g := At.grownAt g h t Dd
 replace ho_hP1_3 := dh.grownAtNe ho_hP1_3 af t
 replace e := dR.grownAt e h t
 replace ho := dh.grownAtNe ho O t
 replace h := ag
 refine cT ?_
 obtain ⟨hi1, hi2, hi3, hi4⟩ := uK hok (dS (d := ⟨0, 0⟩) (show k < (i9 on may n).length by omega))
 have hgl := pj may n (i9 on may n) k
 refine Zr <| Zv (db rfl dN rfl h) <| Zv (db rfl df rfl g) <| Zi rfl <| ZC (vs := [.agg #[_, _], .agg #[_, _, _, _], .int .i64 _]) NU (zp ((i9 on may n).getD k ⟨0, 0⟩) may n _ ⟨hi2, hi3⟩) rfl fun aI aJ l P => ?_
 replace hB := Ze hB l
 replace f := l.at f
 replace g := l.at g
 replace ho_hP1_3 := l.ow ho_hP1_3
 replace e := l.mapT e
 replace ho := l.ow ho
 replace h := l.at h
 rw [if_pos hi1] at P
 obtain rfl := P
 refine Zw (.tuple #[.agg #[_, _], .int .i64 _]) rfl <| Zv (dI rfl) <| Zv (dK rfl) <| Zy (dt i4 rfl fun Q aK z m i => ?_)
 have ah := ZO z hB
 have ai := dh.neB (b := Q) ho_hP1_3 (Nat.le_of_eq z.symm)
 have R := dh.neB (b := Q) ho (Nat.le_of_eq z.symm)
 have aj := Zn z h.lt
 clear z
 replace hB := Ze hB m
 replace f := m.at f
 replace g := m.at g
 replace ho_hP1_3 := m.ow ho_hP1_3
 replace e := m.mapT e
 replace ho := m.ow ho
 replace h := m.at h
 refine Zy (dg rfl rfl dN rfl i rfl rfl fun aL o ak => ?_)
 replace hB := Zg hB o ah
 replace f := At.grownAt f i o Dd
 replace g := At.grownAt g i o Dd
 replace ho_hP1_3 := dh.grownAtNe ho_hP1_3 ai o
 replace e := dR.grownAt e i o
 replace ho := dh.grownAtNe ho R o
 replace h := At.grownNe h aj o
 replace i := ak
 refine Zi rfl <| cT <| Zr <| Zw (.map (some A)) rfl <| Zv (db rfl dN rfl i) <| Zv (fR (enc := iC) (encV := Value.bool) (v0 := false) (k := (jw may n ((i9 on may n).getD k ⟨0, 0⟩))) rfl rfl ld mF (fun a => ⟨a, rfl⟩) mn oN rfl e) <| Zv (fy rfl) <| cT <| ZQ rfl (fun p => ?_) fun p => ?_
 refine Zr <| Zw (.map (some A)) rfl <| Zv (db rfl dN rfl i) ?_
 refine gS (dd := none) rfl rfl rfl (fI (enc := iC) (encV := Value.bool) (k := (jw may n ((i9 on may n).getD k ⟨0, 0⟩))) (v := true) rfl rfl rfl ld mF (fun a => ⟨a, rfl⟩) mn e (fun aM q al => ?_))
 replace hB := Zg hB q aa
 replace f := At.grownMap f e q
 replace g := At.grownMap g e q
 replace ho_hP1_3 := dh.grownMap ho_hP1_3 e q
 replace ho := dh.grownMap ho e q
 replace h := At.grownMap h e q
 replace i := At.grownMap i e q
 replace e := al
 rw [jj] at e
 refine cT <| cZ <| Zw v0 rfl <| Zv (db rfl dN rfl i) <| Zy (fc (u := .agg #[_, _]) rfl eZ ja rfl Dd Dd fun H aN y j ao => ?_)
 have aO := ZO y hB
 have aP := dh.neB (b := H) ho_hP1_3 (Nat.le_of_eq y.symm)
 have aQ := dh.neB (b := H) ho (Nat.le_of_eq y.symm)
 have aR := Zn y h.lt
 have aS := Zn y i.lt
 clear y
 replace hB := Ze hB j
 replace f := j.at f
 replace g := j.at g
 replace ho_hP1_3 := j.ow ho_hP1_3
 replace e := j.mapT e
 replace ho := j.ow ho
 replace h := j.at h
 replace i := j.at i
 refine Zy (jr (v := v0) (v2 := .slice (some ⟨H, 0, none⟩) 1 1) rfl rfl eZ ja Dd ho (fG ao rfl) rfl (by have := Below.size hB; omega) (by first | omega | (simp; omega) | (simp only [cV, cW, cX, da, de]; omega)) (by first | omega | (simp; omega) | (simp only [cV, cW, cX, da, de]; omega)) fun S aT r D ap => ?_)
 have aq := eO.app hap ap ho_hP1_3
 replace D := dh.snoc (enc := gU) (x := (jw may n ((i9 on may n).getD k ⟨0, 0⟩))) rfl rfl rfl rfl D
 replace hB := ZG hB r ho
 replace f := At.grownOw f ho r Dd
 replace g := At.grownOw g ho r Dd
 replace ho_hP1_3 := dh.grownAp ho_hP1_3 hap r
 replace e := dR.grownOw e ho r
 replace h := At.grownOwNe h O r
 replace i := At.grownOwNe i R r
 clear ho
 refine Zw S rfl <| cT <| M _ _ <| cZ <| Zv (dp rfl rfl Om Om) <| Zi rfl <| cT ?_
 exact L _ _ ((k + 1, S)) Za ⟨rfl, rfl, trivial⟩ ⟨hB, f, g, ho_hP1_3, (by first | exact e | (rw [iL, p4 (Bk (kk := jw may n ((i9 on may n).getD k ⟨0, 0⟩)) p)]; exact e)), aq, (by first | (rw [iL, vr (Df (kk := jw may n ((i9 on may n).getD k ⟨0, 0⟩)) p)]; exact D) | (rw [iL, p4 (Bk (kk := jw may n ((i9 on may n).getD k ⟨0, 0⟩)) p)]; exact D)), Om, trivial⟩ (by show (i9 on may n).length - (k + 1) < (i9 on may n).length - k; omega)
 refine c9 <| M _ _ <| cZ <| Zv (dp rfl rfl Om Om) <| Zi rfl <| cT ?_
 exact L _ _ ((k + 1, v0)) Za ⟨rfl, rfl, trivial⟩ ⟨hB, f, g, ho_hP1_3, (by first | exact e | (rw [iL, p4 (Bk (kk := jw may n ((i9 on may n).getD k ⟨0, 0⟩)) p)]; exact e)), hap, (by first | (rw [iL, vr (Df (kk := jw may n ((i9 on may n).getD k ⟨0, 0⟩)) p)]; exact ho) | (rw [iL, p4 (Bk (kk := jw may n ((i9 on may n).getD k ⟨0, 0⟩)) p)]; exact ho)), Om, trivial⟩ (by show (i9 on may n).length - (k + 1) < (i9 on may n).length - k; omega)
 refine dr <| ab _ _ <| Zr <| Zw v0 rfl <| Zw v0 rfl <| Zw (.int .i64 0) rfl <| cT <| Zt <| dZ (v := v0) rfl (v1 := .int .i64 0) rfl ⟨hB, ?_⟩
 obtain rfl : k = (i9 on may n).length := by omega
 rw [if_pos hok]
 exact ⟨_, rfl, ho⟩
end
section
open Go Go.RowKit
def Ci (l : List Cb) (n : Nat) (but : Int) : Nat → Nat
 | 0 => 0
 | k + 1 => if (k : Int) = but then Ci l n but k else Ci l n but k ||| qI (l.getD k ⟨0, 0⟩).m ((l.getD k ⟨0, 0⟩).v &&& (l.getD k ⟨0, 0⟩).m) n
theorem j9 {l : List Cb} {n : Nat} {but : Int} (hn : n ≤ 8) (p : Nat) : ∀ k, k ≤ l.length → (∀ c, c ∈ l → c.v &&& c.m = c.v) → ((Ci l n but k).testBit p = true ↔ ∃ j, j < k ∧ ¬ (j : Int) = but ∧ p < 2 ^ n ∧ hold (l.getD j ⟨0, 0⟩) p)
 | 0, _, _ => by simp [Ci]
 | k + 1, hk, hv => by
  have ih := j9 (but := but) hn p k (by omega) hv
  rw [Ci]
  split
  ·rename_i h
   rw [ih]
   constructor
   ·rintro ⟨j, hj, r⟩; exact ⟨j, by omega, r⟩
   ·rintro ⟨j, hj, h2, r⟩
    rcases Nat.lt_succ_iff_lt_or_eq.1 hj with hj | rfl
    ·exact ⟨j, hj, h2, r⟩
    ·exact absurd h h2
  ·rename_i h
   rw [Nat.testBit_or, Bool.or_eq_true, ih, jq hn, hv _ (dS (by omega)), Bool.and_eq_true, decide_eq_true_eq, decide_eq_true_eq]
   constructor
   ·rintro (⟨j, hj, r⟩ | ⟨h1, h2⟩)
    ·exact ⟨j, by omega, r⟩
    ·exact ⟨k, by omega, h, h1, h2⟩
   ·rintro ⟨j, hj, h2, h3, h4⟩
    rcases Nat.lt_succ_iff_lt_or_eq.1 hj with hj | rfl
    ·exact .inl ⟨j, hj, h2, h3, h4⟩
    ·exact .inr ⟨h3, h4⟩
section
variable {on m : Nat} {n : Int}
theorem I5 (h : xT on m n = true) : ∃ k : Nat, n = (k : Int) ∧ k ≤ 8 ∧ mQ k on m 0 := by
 obtain ⟨h0, h8⟩ := jY (jI.1 h).1
 obtain ⟨k, rfl⟩ := Int.eq_ofNat_of_zero_le h0
 obtain ⟨h1, h2⟩ := za h
 exact ⟨k, rfl, h1, h2⟩
theorem ME (h : xT on m n = true) : ∀ c, c ∈ i9 on m n → c.v &&& c.m = c.v := fun c hc => (uK h hc).2.2.2
theorem NF (h : xT on m n = true) : ep on (Ci (i9 on m n) n.toNat (-1) (i9 on m n).length) = true := by
 have hv := ME h
 obtain ⟨k, rfl, h8, hg⟩ := I5 h
 rw [d6]
 intro p hp ho
 obtain ⟨c, hc, hh⟩ := (kv h8 (k + 1) on m 0 hg (by omega)).2 p (hg.out p hp (hg.sub p hp ho)) ho
 obtain ⟨j, hj, rfl⟩ := fo (d := ⟨0, 0⟩) hc
 exact (j9 h8 p _ (Nat.le_refl _) hv).2 ⟨j, hj, by omega, hg.out p hp (hg.sub p hp ho), hh⟩
abbrev BT (on m : Nat) (n : Int) : List Cb := Cg m n (i9 on m n)
theorem Ly (h : xT on m n = true) : (BT on m n).length ≤ 19683 := Nat.le_trans (pj _ _ _ _) (BA (jY (jI.1 h).1).2)
theorem tr (h : xT on m n = true) {c : Cb} (hc : c ∈ BT on m n) : gK c.m c.v m n = true := by
 obtain ⟨j, hj, rfl⟩ := (pv _).1 hc
 exact (rc (uK h (dS hj)).1).1
theorem Qc (h : xT on m n = true) : ∀ c, c ∈ BT on m n → c.m < 256 ∧ c.v < 256 := fun c hc => by
 have := ly (j1 (tr h hc))
 have h2 := fh (jY (jI.1 h).1).2
 omega
theorem MG (h : xT on m n = true) : ∀ c, c ∈ BT on m n → c.v &&& c.m = c.v := fun c hc => (dW.1 (j1 (tr h hc))).2.2.2
theorem OT (h : xT on m n = true) : ep on (Ci (BT on m n) n.toNat (-1) (BT on m n).length) = true := by
 have hv := MG h
 have h1 := NF h
 have hcv := ME h
 have hgp : ∀ j, j < (i9 on m n).length → ∃ k, k < (BT on m n).length ∧ (BT on m n).getD k ⟨0, 0⟩ = jw m n ((i9 on m n).getD j ⟨0, 0⟩) := fun j hj => fo ((pv _).2 ⟨j, hj, rfl⟩)
 have hgr : ∀ j, j < (i9 on m n).length → i7 (jw m n ((i9 on m n).getD j ⟨0, 0⟩)) ((i9 on m n).getD j ⟨0, 0⟩) = true := fun j hj => (rc (uK h (dS hj)).1).2
 obtain ⟨q, rfl, h8, hg⟩ := I5 h
 rw [d6]
 intro p hp ho
 obtain ⟨j, hj, _, h2, h3⟩ := (j9 h8 p _ (Nat.le_refl _) hcv).1 (d6.1 h1 p hp ho)
 obtain ⟨k, hk, he⟩ := hgp j hj
 refine (j9 h8 p _ (Nat.le_refl _) hv).2 ⟨k, hk, by omega, h2, ?_⟩
 have := lh (p := p) (show (jw m q ((i9 on m q).getD j ⟨0, 0⟩)).v &&& (jw m q ((i9 on m q).getD j ⟨0, 0⟩)).m = _ by rw [← he]; exact hv _ (dS hk)) (hgr j hj) h3
 rw [he]
 exact this
end
end
section
open Go Go.RowKit
def rE (S : Sp) (o : Nat) : List Cb := Cg (jf S o) S.n (i9 (zQ S o) (jf S o) S.n)
def qX (S : Sp) (o i : Nat) : Rw := tX S ⟨(rE S o).getD i ⟨0, 0⟩, 2 ^ o⟩
def DU (S : Sp) (o : Nat) (acc : List Rw) : Nat → List Rw
 | 0 => acc
 | i + 1 => iB (DU S o acc i) (qX S o i)
def Cv (S : Sp) : Nat → List Rw
 | 0 => []
 | o + 1 => DU S o (Cv S o) (rE S o).length
def kS (S : Sp) : List Rw := Cv S S.on.length
theorem pD {S : Sp} (hr : dP S = true) {o : Nat} (ho : o < S.on.length) : xT (zQ S o) (jf S o) S.n = true := by
 obtain ⟨h0, h8, h1, h4, h5, hin⟩ := d7.1 hr
 refine jI.2 ⟨?_, (hin o ho).1⟩
 unfold uA
 rw [(hin o ho).2, decide_eq_true h0, decide_eq_true h8]
 rfl
theorem JC {S : Sp} (hr : dP S = true) {o : Nat} (ho : o < S.on.length) : (rE S o).length ≤ 19683 := Ly (pD hr ho)
theorem E6 {S : Sp} (hr : dP S = true) {o i : Nat} (ho : o < S.on.length) (hi : i < (rE S o).length) : ((rE S o).getD i ⟨0, 0⟩).m < 256 ∧ ((rE S o).getD i ⟨0, 0⟩).v < 256 := Qc (pD hr ho) _ (dS hi)
theorem vY {S : Sp} (hr : dP S = true) {o i : Nat} (ho : o < S.on.length) (hi : i < (rE S o).length) : pM S ⟨(rE S o).getD i ⟨0, 0⟩, 2 ^ o⟩ = true := by
 obtain ⟨h0, h8, h1, h4, h5, hin⟩ := d7.1 hr
 refine gy.2 ⟨hr, Nat.two_pow_pos o, fun j hj => ?_⟩
 have hj' : (2 ^ o).testBit j = true := hj
 rw [Nat.testBit_two_pow, decide_eq_true_eq] at hj'
 subst hj'
 exact ⟨by omega, (fY.1 (tr (pD hr ho) (dS hi))).1⟩
theorem Pg {S : Sp} (hr : dP S = true) {o i : Nat} (ho : o < S.on.length) (hi : i < (rE S o).length) : (qX S o i).c.m < 256 ∧ (qX S o i).c.v < 256 ∧ (qX S o i).o < 256 := by
 obtain ⟨h0, h8, h1, h4, h5, hin⟩ := d7.1 hr
 obtain ⟨g1, g2⟩ := rU (S := S) (x := ⟨(rE S o).getD i ⟨0, 0⟩, 2 ^ o⟩) (E6 hr ho hi) S.n.toNat
 refine ⟨g1, g2, ?_⟩
 have := (oq (fC.1 (mU (vY hr ho hi)).1).1).2
 show (tX S ⟨(rE S o).getD i ⟨0, 0⟩, 2 ^ o⟩).o < 256
 omega
theorem zx (S : Sp) (o : Nat) (acc : List Rw) : ∀ i, (DU S o acc i).length ≤ acc.length + i
 | 0 => Nat.le_refl _
 | i + 1 => Nat.le_trans (pn _ _) (by have := zx S o acc i; omega)
theorem zF {S : Sp} (hr : dP S = true) : ∀ o, o ≤ S.on.length → (Cv S o).length ≤ o * 19683
 | 0, _ => Nat.le_refl _
 | o + 1, ho => by
  have h1 := zF hr o (by omega)
  have h2 := zx S o (Cv S o) (rE S o).length
  have h3 := JC hr (show o < S.on.length by omega)
  rw [Cv]
  omega
theorem DC {S : Sp} {o : Nat} {acc : List Rw} {x : Rw} : ∀ i, x ∈ DU S o acc i ↔ x ∈ acc ∨ ∃ q, q < i ∧ x = qX S o q
 | 0 => by simp [DU]
 | i + 1 => by
  rw [DU, gm, DC i]
  constructor
  ·rintro ((h | ⟨q, hq, h⟩) | h)
   ·exact .inl h
   ·exact .inr ⟨q, by omega, h⟩
   ·exact .inr ⟨i, by omega, h⟩
  ·rintro (h | ⟨q, hq, h⟩)
   ·exact .inl (.inl h)
   ·rcases Nat.lt_succ_iff_lt_or_eq.1 hq with hq | rfl
    ·exact .inl (.inr ⟨q, hq, h⟩)
    ·exact .inr h
theorem uG {S : Sp} {x : Rw} : ∀ o, x ∈ Cv S o ↔ ∃ q, q < o ∧ ∃ i, i < (rE S q).length ∧ x = qX S q i
 | 0 => by simp [Cv]
 | o + 1 => by
  rw [Cv, DC, uG o]
  constructor
  ·rintro (⟨q, hq, h⟩ | h)
   ·exact ⟨q, by omega, h⟩
   ·exact ⟨o, by omega, h⟩
  ·rintro ⟨q, hq, h⟩
   rcases Nat.lt_succ_iff_lt_or_eq.1 hq with hq | rfl
   ·exact .inl ⟨q, hq, h⟩
   ·exact .inr h
theorem Gd {S : Sp} (hr : dP S = true) : (kS S).length ≤ 78732 := by
 have h := zF hr _ (Nat.le_refl _)
 obtain ⟨h0, h8, h1, h4, h5, hin⟩ := d7.1 hr
 unfold kS
 omega
theorem tG {S : Sp} (hr : dP S = true) {x : Rw} (hx : x ∈ kS S) : oJ S x = true := by
 obtain ⟨q, hq, i, hi, rfl⟩ := (uG _).1 hx
 exact (mU (vY hr hq hi)).1
theorem Lt {S : Sp} (hr : dP S = true) : hU (kS S) := fun x hx => by
 obtain ⟨q, hq, i, hi, rfl⟩ := (uG _).1 hx
 exact Pg hr hq hi
theorem FA {S : Sp} (hr : dP S = true) : ju S (kS S) = true := by
 obtain ⟨h0, h8, h1, h4, h5, hin⟩ := d7.1 hr
 have hm : oh S (kS S) = true := vS.2 fun x hx => by
  have hi := (fC.1 (tG hr hx)).1
  exact jd.2 ⟨gn hi, (gy.1 hi).2.1, h5 ▸ (oq hi).1⟩
 refine gX.2 ⟨hr, hm, fun o ho => (mq hr hm ho).2 fun p hp => ⟨fun hb => ?_, fun hb => ?_⟩⟩
 ·have hok := pD hr ho
  have hp8 : p < 256 := by have := fh h8; omega
  obtain ⟨i, hi, _, _, hh⟩ := (j9 (n := S.n.toNat) (by omega) p _ (Nat.le_refl _) (MG hok)).1 (d6.1 (OT hok) p hp8 hb)
  obtain ⟨hpr, hho⟩ := mU (vY hr ho (i := i) hi)
  obtain ⟨g1, g2⟩ := oD.1 hho
  have hv : (qX S o i).c.v &&& (qX S o i).c.m = (qX S o i).c.v := (dW.1 (gn (fC.1 hpr).1)).2.2.2
  unfold yF
  rw [List.any_eq_true]
  refine ⟨qX S o i, (uG _).2 ⟨o, ho, i, hi, rfl⟩, ?_⟩
  rw [Bool.and_eq_true]
  refine ⟨g2 o (by show (2 ^ o).testBit o = true; rw [Nat.testBit_two_pow]; simp), ?_⟩
  have := lh (p := p) hv g1 hh
  unfold pf
  rw [decide_eq_true_eq, hv]
  exact this
 ·unfold yF at hb
  rw [List.any_eq_true] at hb
  obtain ⟨x, hx, h2⟩ := hb
  rw [Bool.and_eq_true] at h2
  have hi := (fC.1 (tG hr hx)).1
  have hv := (dW.1 (gn hi)).2.2.2
  have h3 := h2.2
  unfold pf at h3
  rw [decide_eq_true_eq, hv] at h3
  exact (f6.1 ((gy.1 hi).2.2 o h2.1).2).2 p hp h3
theorem uw {ml : List Rw} {kk : Rw} (h : (!(g6 (ft ml) ⟨⟨kk.c.m, kk.c.v⟩, kk.o⟩).getD false) = true) : kk ∉ ml := by
 rw [ls] at h
 simpa using h
theorem pI {ml : List Rw} {kk : Rw} (h : (!(g6 (ft ml) ⟨⟨kk.c.m, kk.c.v⟩, kk.o⟩).getD false) = false) : kk ∈ ml := by
 rw [ls] at h
 simpa using h
theorem ub {S : Sp} {o i : Nat} {acc : List Rw} (h : qX S o i ∉ DU S o acc i) : DU S o acc i ++ [qX S o i] = DU S o acc (i + 1) := (vr h).symm
theorem mS {S : Sp} {o i : Nat} {acc : List Rw} (h : qX S o i ∈ DU S o acc i) : DU S o acc i = DU S o acc (i + 1) := (p4 h).symm
end
section
open Go Go.RowKit
theorem Ol80_0 {p : Prop} (h : p := by first | omega | (simp only [cV, cW, cX, da, de]; omega)) : p := h
theorem OB : dC Tryz.prog 46 = true := by kernel_rfl
theorem Jy : dC Tryz.prog 47 = true := by kernel_rfl
theorem ut : lK Tryz.prog 86 = some (42, 4) := by kernel_rfl
theorem Mb {f : Nat → Value} {w : World} {d : Option Nat} {ty t2 : TypeId} {ps : String} {af : Array Edge} {g : Option (Nat × Bool)} {x y : Operand} {a0 a1 a2 b0 b1 b2 : Int} (hx : dO f x = .agg #[.int .u8 a0, .int .u8 a1, .int .u8 a2]) (hy : dO f y = .agg #[.int .u8 b0, .int .u8 b1, .int .u8 b2]) :
    (execOp (dO f) ⟨d, .binOp .eql 42 x y t2, ty, ps, af, g⟩).run Tryz.prog w = .ok (.value (.bool (decide ((a0 = b0 ∧ a1 = b1 ∧ a2 = b2))))) w := by
  have hg : Tryz.prog.eqGuardType Tryz.prog.depth 42 = false := by kernel_rfl
  have hp42 : Tryz.prog.stoodInHeld 42 = false := by kernel_rfl
  have hu42 : Tryz.prog.underlying 42 = some (.struct (Tryz.prog.fieldsOf 42)) := by kernel_rfl
  have hp40 : Tryz.prog.stoodInHeld 40 = false := by kernel_rfl
  have hu40 : Tryz.prog.underlying 40 = some (.struct (Tryz.prog.fieldsOf 40)) := by kernel_rfl
  obtain ⟨j40, hj40, hs40⟩ := Option.map_eq_some_iff.1 (show (Tryz.prog.info? 40).map (·.size) = some 2 by kernel_rfl)
  simp only [execOp, hx, hy, Sem.run_bind, run_eqGuard_agg _ _ _ _ _ _ _ hg, Result.andThen_ok, run_eql_struct, run_equalIn_agg _ 9999 42 _ _ hu42 hp42]
  simp only [Program.fieldsOf, Tryz.underlying42]
  simp [Op.eqFields, part, isAgg, run_equalIn_int _ 9998 5 _ _ _ _ Tryz.underlying5, run_underlying Tryz.underlying5, run_equalIn_agg _ 9998 40 _ _ hu40 hp40, Program.fieldsOf, Tryz.underlying40, run_equalIn_int _ 9997 5 _ _ _ _ Tryz.underlying5, sizeOf, typeInfo, hj40, hs40, run_underlying Tryz.underlying40]
  by_cases q0 : a0 = b0 <;> by_cases q1 : a1 = b1 <;> by_cases q2 : a2 = b2 <;> simp [q0, q1, q2]
theorem rT : oS Tryz.prog 42 (fun v => ∃ a : Rw, v = qC a) := by
  refine nG Tryz.underlying42 ?_ ?_ ?_ ?_
  · rintro w _ _ ⟨a, rfl⟩ ⟨c, rfl⟩
    have hg : Tryz.prog.eqGuardType Tryz.prog.depth 42 = false := by kernel_rfl
    exact ⟨_, ql hg (Mb rfl rfl), by rw [decide_eq_true_eq]; constructor <;> intro h <;> simpa [qC] using h⟩
  · rintro _ _ ⟨a, rfl⟩ ⟨c, rfl⟩
    exact .inl rfl
  · rintro w em _ ⟨a, rfl⟩
    have h2 : ∀ k, (Instr.checkKey em (k + 1 + 1 + 1) 42 (qC a)).run Tryz.prog w = .ok () w := fun k => by
      simp [qC, Instr.checkKey, part, isAgg, run_underlying Tryz.underlying42, run_underlying Tryz.underlying40, run_underlying Tryz.underlying5]
    exact h2 9997
  · rintro _ ⟨a, rfl⟩
    simp [qC, Instr.sameBits]
theorem yV (S : Sp) (onV mayV : Value) (w : World) (hon : dM gp 4 w onV S.on) (hmay : dM gp 4 w mayV S.may) :
    Fn Tryz.prog 21 #[.agg #[.int .i64 S.n, onV, mayV]] w fun v w' => if dP S = true then ∃ x, v = .tuple #[x, .int .i64 0] ∧ dh gv 3 42 w' w.heap.size x (kS S) else v = .tuple #[.slice none 0 0, .int .i64 1] := by
 refine dq (n := 66) Tryz.func21 rfl rfl (Nat.le_of_ble_eq_true rfl) ?_
 have hB : Below w.heap.size w w := Below.refl _ _
 refine Zr <| Zy (dU (c := #[_, _, _]) rfl rfl fun aj W3 ak av f => ?_)
 have aY := ZO ak hB
 clear ak
 replace hB := Ze hB av
 refine Zw (.slice none 0 0) rfl <| Zw (.int .i64 0) rfl <| cT <| cY fun K6 aw => Zr <| Zv (db rfl eV rfl f) <| ZC (vs := [.agg #[_, _, _]]) q5 (iN S _ _  _ (Below.slT hB hon) (Below.slT hB hmay) ) rfl fun aZ a0 al ax => ?_
 replace hB := Ze hB al
 replace f := al.at f
 obtain rfl := ax
 refine Zv (fy rfl) <| cT <| ZQ rfl (fun af => ?_) fun af => ?_
 refine Zr <| Zw (.slice none 0 0) rfl <| Zw (.int .i64 1) rfl <| cT <| Zt <| dZ (v := .slice none 0 0) rfl (v1 := .int .i64 1) rfl ⟨hB, ?_⟩
 rw [if_neg (by rw [show dP S = false from jc af]; decide)]
 refine c9 <| aw _ _ ?_
 have hr : dP S = true := ie af
 obtain ⟨h0, h8, h1, h4, h5, hin⟩ := d7.1 hr
 refine Zr <| Zy (gE (enc := qC) (encV := Value.bool) fun E a1 ao ap d => ?_)
 have aq := ZO ao hB
 clear ao
 replace hB := Ze hB ap
 replace f := ap.at f
 replace d : dR qC Value.bool _ _ (ft []) := d
 refine Zw (.map (some E)) rfl <| cT <| Zr <| Zw (.slice none 0 0) rfl <| cT <| cY fun a2 ay => Zr <| Zf rfl fF <| ZL onV rfl eE f rfl <| Zv (dA (v := onV) rfl (Below.slT hB hon) ea) <| Zw (.int .i64 0) rfl <| cT <| c7 ?_
 refine dw (σ := (Nat) × (Value)) [5, 6, 7, 8, 9, 11, 12, 13, 21, 22, 23, 24, 25, 26, 27, 28, 29, 30, 31, 32, 33, 34, 35, 36, 37, 38, 39, 40, 41, 42, 43, 44, 45, 46, 47, 48, 49, 50, 51, 52, 53, 54, 55, 56, 57, 58, 59, 60, 61, 62, 63, 64] (fun (o, v0) => [(21, .int .i64 (o : Int)), (5, v0)]) (fun sg W => match sg with | (o, v0) => (Below w.heap.size w W) ∧ (At W aj _ 24) ∧ (dR qC Value.bool W E (ft (Cv S o))) ∧ (dh gv 3 42 W w.heap.size v0 (Cv S o)) ∧ (o ≤ S.on.length) ∧ (True)) (fun (o, v0) => S.on.length - o) ((0, .slice none 0 0)) ⟨rfl, rfl, trivial⟩ ⟨hB, f, d, dh.nil, (Nat.zero_le _), trivial⟩ ?_
 clear hB f d
 rintro ⟨o, v0⟩ a3 a4 ⟨hB, f, d, ho, hoo, _⟩ a5 az
 refine Zr <| Zv (dL rfl rfl) <| cT <| cY fun a6 aA => ZQ rfl (fun aB => ?_) fun aB => ?_
 refine c9 <| aA _ _ <| cY fun a7 aC => c7 ?_
 have O : o < S.on.length := by omega
 have h7 := zE (show o < 8 by omega)
 have hgl := JC hr O
 have hpl := zF hr o (by omega)
 refine Zr <| Zi rfl <| Zv (dJ (v := onV) rfl (Below.slT hB hon) rfl ea Om Ol80_0) <| Zv (fq rfl df (dM.cell (Below.slT hB hon) dG 0 Om Ol80_0 0 rfl) (dM.cell (Below.slT hB hon) dG 0 Om Ol80_0 1 rfl) (dM.cell (Below.slT hB hon) dG 0 Om Ol80_0 2 rfl) (dM.cell (Below.slT hB hon) dG 0 Om Ol80_0 3 rfl)) <| Zy (dt eM rfl fun ar aD au X g => ?_)
 have aE := ZO au hB
 clear au
 replace hB := Ze hB X
 replace f := X.at f
 replace d := X.mapT d
 replace ho := X.ow ho
 replace g : At aD ar #[wv 0 0, wv 0 1, wv 0 2, wv 0 3] 49 := g
 refine Zi rfl <| Zy (dg rfl rfl df rfl g rfl rfl fun a8 Y aF => ?_)
 replace hB := Zg hB Y aE
 replace f := At.grownAt f g Y Dd
 replace d := dR.grownAt d g Y
 replace ho := dh.grownAt ho g Y Dd
 replace g := aF
 refine cT <| Zd eo fun aG P => ?_
 replace hB := Ze hB P
 replace f := P.at f
 replace d := P.mapT d
 replace ho := P.ow ho
 replace g := P.at g
 have hS := eo.refl aG
 refine Tk 0 rfl (fun _ hq => db rfl df rfl (hq.at g)) hS <| Tf 1 rfl rfl fU hS <| Tk 2 rfl (fun _ hq => dk (v := mayV) rfl eE (At.cell (hq.at f) rfl)) hS <| Ti 3 rfl rfl hS <| Tk 4 rfl (fun _ hq => dJ (v := mayV) rfl (hq.slT (Below.slT hB hmay)) rfl ea Om Ol80_0) hS <| Tk 5 rfl (fun _ hq => fq rfl df (dM.cell (hq.slT (Below.slT hB hmay)) dG 0 Om Ol80_0 0 rfl) (dM.cell (hq.slT (Below.slT hB hmay)) dG 0 Om Ol80_0 1 rfl) (dM.cell (hq.slT (Below.slT hB hmay)) dG 0 Om Ol80_0 2 rfl) (dM.cell (hq.slT (Below.slT hB hmay)) dG 0 Om Ol80_0 3 rfl)) hS <| Tf 6 rfl rfl fQ hS <| Tk 7 rfl (fun _ hq => dk (v := .int .i64 _) rfl dB (At.cell (hq.at f) rfl)) hS <| To 8 rfl (TC (vs := [.agg #[_, _, _, _], .agg #[_, _, _, _], .int .i64 _]) OB (zL (zQ S o) (jf S o) S.n _) rfl fun a9 ba F aH => ⟨.inl (hS.trans F), ?_⟩)
 have aI := (Below.size hB)
 replace hB := Ze hB F
 replace f := F.at f
 replace d := F.mapT d
 replace ho := F.ow ho
 replace g := F.at g
 replace hS := hS.trans F
 obtain ⟨x_hP8_8, er_hP8_8, l_hP8_8, rfl, ho_hP8_8, hc_hP8_8⟩ := EL aH
 replace ho_hP8_8 := dh.mono ho_hP8_8 aI
 refine Tw 9 (.tuple #[x_hP8_8, .int .i64 _]) rfl rfl hS <| Tk 10 rfl (fun _ _ => dI rfl) hS <| Tk 11 rfl (fun _ _ => dK rfl) hS <| Tw 12 x_hP8_8 rfl rfl hS <| Ti 13 rfl rfl hS <| Td ?_
 obtain ⟨_, hleq⟩ := Jt hc_hP8_8 (by intro h; exact h (by rcases hc_hP8_8 with ⟨_, h, _⟩ | ⟨h, _⟩; exact h; rw [pD hr O] at h; cases h))
 have hleq2 : l_hP8_8 = rE S o := hleq
 subst hleq2
 refine Zr <| Zw x_hP8_8 rfl <| Zv (dA (v := x_hP8_8) rfl ho_hP8_8.sl eZ) <| Zw (.int .i64 0) rfl <| cT <| c7 ?_
 refine dw (σ := (Nat) × (Value)) [5, 11, 12, 13, 40, 41, 42, 43, 44, 45, 46, 47, 48, 49, 50, 51, 52, 53, 54, 55, 56, 57, 58, 59, 60, 61, 62, 63] (fun (i, v1) => [(40, .int .i64 (i : Int)), (5, v1)]) (fun sg W => match sg with | (i, v1) => (Below w.heap.size w W) ∧ (At W aj _ 24) ∧ (At W ar _ 49) ∧ (dh gU 2 40 W w.heap.size x_hP8_8 _) ∧ (dR qC Value.bool W E (ft (DU S o (Cv S o) i))) ∧ (dh gv 3 42 W w.heap.size v1 (DU S o (Cv S o) i)) ∧ (i ≤ (rE S o).length) ∧ (True)) (fun (i, v1) => (rE S o).length - i) ((0, v0)) ⟨rfl, rfl, trivial⟩ ⟨hB, f, g, ho_hP8_8, d, (by exact ho), (Nat.zero_le _), trivial⟩ ?_
 clear hB f d ho g ho_hP8_8
 rintro ⟨i, v1⟩ bb bc ⟨hB, f, g, ho_hP8_8, d, hoo2, hi, _⟩ bd Z
 refine Zr <| Zv (dL rfl rfl) <| cT <| cY fun bf aJ => ZQ rfl (fun aK => ?_) fun aK => ?_
 refine c9 <| aJ _ _ <| cY fun bg aa => c7 ?_
 have hi2 : i < (rE S o).length := by omega
 have hgg := E6 hr O hi2
 have hcl := zx S o (Cv S o) i
 refine Zr <| Zv (dJ (v := x_hP8_8) rfl ho_hP8_8.sl rfl eZ Om Ol80_0) <| Zv (ig rfl dN (dM.cell ho_hP8_8.sl gj ⟨0, 0⟩ Om Ol80_0 0 rfl) (dM.cell ho_hP8_8.sl gj ⟨0, 0⟩ Om Ol80_0 1 rfl)) <| Zy (dt i4 rfl fun aL bh ag M p => ?_)
 have aM := ZO ag hB
 have aN := dh.neB (b := aL) ho_hP8_8 (Nat.le_of_eq ag.symm)
 clear ag
 replace hB := Ze hB M
 replace f := M.at f
 replace g := M.at g
 replace ho_hP8_8 := M.ow ho_hP8_8
 replace d := M.mapT d
 replace hoo2 := M.ow hoo2
 refine Zy (dg rfl rfl dN rfl p rfl rfl fun bi N aO => ?_)
 replace hB := Zg hB N aM
 replace f := At.grownAt f p N Dd
 replace g := At.grownAt g p N Dd
 replace ho_hP8_8 := dh.grownAtNe ho_hP8_8 aN N
 replace d := dR.grownAt d p N
 replace hoo2 := dh.grownAt hoo2 p N Dd
 replace p := aO
 refine cT <| Zd eo fun aP G => ?_
 replace hB := Ze hB G
 replace f := G.at f
 replace g := G.at g
 replace ho_hP8_8 := G.ow ho_hP8_8
 replace d := G.mapT d
 replace hoo2 := G.ow hoo2
 replace p := G.at p
 have hS := eo.refl aP
 refine Tk 0 rfl (fun _ hq => db rfl eV rfl (hq.at f)) hS <| Tk 1 rfl (fun _ hq => db rfl dN rfl (hq.at p)) hS <| Ti 2 rfl rfl hS <| Tk 3 rfl (fun _ _ => jB (m := 1) rfl rfl Om (by simp only [IntKind.bits]; omega) (by simp only [d5, Int.toNat_natCast, Nat.one_mul]; omega)) hS <| Tk 4 rfl (fun _ _ => kb (h0 := rfl) (h1 := rfl) (k1 := rfl) (c1_0 := .int .u8 _)) hS ?_
 refine HN 5 9 (by kernel_rfl) rfl rfl rfl rfl rfl rfl rfl rfl (Yd.call (ug Jy (v0 := .agg #[_, _, _]) rfl (v1 := .agg #[_, _, _]) rfl) (r9 S _ _ ⟨((rE S o).getD i ⟨0, 0⟩), 1 * 2 ^ o⟩ _ (Below.slT hB hon) (Below.slT hB hmay) ⟨hgg.1, hgg.2, (by show 1 * 2 ^ o < 256; omega)⟩) (fun aQ bj s Q => ⟨.inl (hS.trans s), ?_⟩)) (dt kP rfl (fun H bk ab t l => ⟨.inl (hS.trans t), ?_⟩))
 replace hB := Ze hB s
 replace f := s.at f
 replace g := s.at g
 replace ho_hP8_8 := s.ow ho_hP8_8
 replace d := s.mapT d
 replace hoo2 := s.ow hoo2
 replace p := s.at p
 replace hS := hS.trans s
 rw [Nat.one_mul, if_pos (vY hr O hi2)] at Q
 obtain rfl := Q
 refine Tw 6 (.tuple #[.agg #[_, _, _], .int .i64 _]) rfl rfl hS <| Tk 7 rfl (fun _ _ => dI rfl) hS <| Tk 8 rfl (fun _ _ => dK rfl) hS <| To 9 rfl (dt kP rfl fun H bl ac y l => ⟨.inl (hS.trans y), ?_⟩)
 have ah := ZO ac hB
 have R := Nat.le_trans (eo.size hS) (Nat.le_of_eq ac.symm)
 have T := dh.neB (b := H) hoo2 (Nat.le_of_eq ac.symm)
 clear ac
 replace hB := Ze hB y
 replace f := y.at f
 replace g := y.at g
 replace ho_hP8_8 := y.ow ho_hP8_8
 replace d := y.mapT d
 replace hoo2 := y.ow hoo2
 replace p := y.at p
 replace hS := hS.trans y
 refine To 10 rfl (dg rfl rfl eA rfl l rfl rfl fun bm z aR => ⟨.inl (dy hS z (Nat.le_refl _) (fun j hj => by have e : H = j := Option.some.inj hj; rw [← e]; exact R)), ?_⟩)
 replace hS : eo _ _ := dy hS z (Nat.le_refl _) (fun j hj => by have e : H = j := Option.some.inj hj; rw [← e]; exact R)
 replace hB := Zg hB z ah
 replace f := At.grownAt f l z Dd
 replace g := At.grownAt g l z Dd
 replace ho_hP8_8 := dh.grownAt ho_hP8_8 l z Dd
 replace d := dR.grownAt d l z
 replace hoo2 := dh.grownAtNe hoo2 T z
 replace p := At.grownAt p l z Dd
 replace l := aR
 refine Ti 11 rfl rfl hS <| Td <| Zr <| Zw (.map (some E)) rfl <| Zv (db rfl eA rfl l) <| Zv (fR (enc := qC) (encV := Value.bool) (v0 := false) (k := (qX S o i)) rfl rfl ut rT (fun a => ⟨a, rfl⟩) sB oN rfl d) <| Zv (fy rfl) <| cT <| ZQ rfl (fun q => ?_) fun q => ?_
 refine Zr <| Zw (.map (some E)) rfl <| Zv (db rfl eA rfl l) ?_
 refine gS (dd := none) rfl rfl rfl (fI (enc := qC) (encV := Value.bool) (k := (qX S o i)) (v := true) rfl rfl rfl ut rT (fun a => ⟨a, rfl⟩) sB d (fun bn I aS => ?_))
 replace hB := Zg hB I aq
 replace f := At.grownMap f d I
 replace g := At.grownMap g d I
 replace ho_hP8_8 := dh.grownMap ho_hP8_8 d I
 replace hoo2 := dh.grownMap hoo2 d I
 replace p := At.grownMap p d I
 replace l := At.grownMap l d I
 replace d := aS
 rw [jj] at d
 refine cT <| cZ <| Zw v1 rfl <| Zv (db rfl eA rfl l) <| Zy (fc (u := .agg #[_, _, _]) rfl dT iu rfl Dd Dd fun U bo ad C ai => ?_)
 have aT := ZO ad hB
 have aU := dh.neB (b := U) hoo2 (Nat.le_of_eq ad.symm)
 have aV := Zn ad l.lt
 clear ad
 replace hB := Ze hB C
 replace f := C.at f
 replace g := C.at g
 replace ho_hP8_8 := C.ow ho_hP8_8
 replace d := C.mapT d
 replace hoo2 := C.ow hoo2
 replace p := C.at p
 replace l := C.at l
 refine Zy (ez (v := v1) (v2 := .slice (some ⟨U, 0, none⟩) 1 1) rfl rfl dT iu Dd hoo2 (fG ai rfl) rfl (by have := Below.size hB; omega) (by first | omega | (simp; omega) | (simp only [cV, cW, cX, da, de]; omega)) (by first | omega | (simp; omega) | (simp only [cV, cW, cX, da, de]; omega)) fun V bp J A => ?_)
 replace A := dh.snoc (enc := gv) (x := (qX S o i)) rfl rfl rfl rfl A
 replace hB := ZG hB J hoo2
 replace f := At.grownOw f hoo2 J Dd
 replace g := At.grownOw g hoo2 J Dd
 replace ho_hP8_8 := dh.grownOw ho_hP8_8 hoo2 J Dd
 replace d := dR.grownOw d hoo2 J
 replace p := At.grownOw p hoo2 J Dd
 replace l := At.grownOwNe l T J
 clear hoo2
 refine Zw V rfl <| cT <| aa _ _ <| cZ <| Zv (dp rfl rfl Om Om) <| Zi rfl <| cT ?_
 exact Z _ _ ((i + 1, V)) Za ⟨rfl, rfl, trivial⟩ ⟨hB, f, g, ho_hP8_8, (by first | exact d | (rw [← mS (pI (kk := qX S o i) q)]; exact d)), (by first | (rw [← ub (uw (kk := qX S o i) q)]; exact A) | (rw [← mS (pI (kk := qX S o i) q)]; exact A)), Om, trivial⟩ (by show (rE S o).length - (i + 1) < (rE S o).length - i; omega)
 refine c9 <| aa _ _ <| cZ <| Zv (dp rfl rfl Om Om) <| Zi rfl <| cT ?_
 exact Z _ _ ((i + 1, v1)) Za ⟨rfl, rfl, trivial⟩ ⟨hB, f, g, ho_hP8_8, (by first | exact d | (rw [← mS (pI (kk := qX S o i) q)]; exact d)), (by first | (rw [← ub (uw (kk := qX S o i) q)]; exact hoo2) | (rw [← mS (pI (kk := qX S o i) q)]; exact hoo2)), Om, trivial⟩ (by show (rE S o).length - (i + 1) < (rE S o).length - i; omega)
 have ah := ZO ab hB
 have R := Nat.le_trans (eo.size hS) (Nat.le_of_eq ab.symm)
 have T := dh.neB (b := H) hoo2 (Nat.le_of_eq ab.symm)
 clear ab
 replace hB := Ze hB t
 replace f := t.at f
 replace g := t.at g
 replace ho_hP8_8 := t.ow ho_hP8_8
 replace d := t.mapT d
 replace hoo2 := t.ow hoo2
 replace p := t.at p
 replace hS := hS.trans t
 refine To 5 rfl (TC (vs := [.agg #[_, _, _], .agg #[_, _, _]]) Jy (r9 S _ _ ⟨((rE S o).getD i ⟨0, 0⟩), 1 * 2 ^ o⟩ _ (Below.slT hB hon) (Below.slT hB hmay) ⟨hgg.1, hgg.2, (by show 1 * 2 ^ o < 256; omega)⟩) rfl fun aQ bq r Q => ⟨.inl (hS.trans r), ?_⟩)
 replace hB := Ze hB r
 replace f := r.at f
 replace g := r.at g
 replace ho_hP8_8 := r.ow ho_hP8_8
 replace d := r.mapT d
 replace hoo2 := r.ow hoo2
 replace p := r.at p
 replace l := r.at l
 replace hS := hS.trans r
 rw [Nat.one_mul, if_pos (vY hr O hi2)] at Q
 obtain rfl := Q
 refine Tw 6 (.tuple #[.agg #[_, _, _], .int .i64 _]) rfl rfl hS <| Tk 7 rfl (fun _ _ => dI rfl) hS <| Tk 8 rfl (fun _ _ => dK rfl) hS <| To 10 rfl (dg rfl rfl eA rfl l rfl rfl fun br B aW => ⟨.inl (dy hS B (Nat.le_refl _) (fun j hj => by have e : H = j := Option.some.inj hj; rw [← e]; exact R)), ?_⟩)
 replace hS : eo _ _ := dy hS B (Nat.le_refl _) (fun j hj => by have e : H = j := Option.some.inj hj; rw [← e]; exact R)
 replace hB := Zg hB B ah
 replace f := At.grownAt f l B Dd
 replace g := At.grownAt g l B Dd
 replace ho_hP8_8 := dh.grownAt ho_hP8_8 l B Dd
 replace d := dR.grownAt d l B
 replace hoo2 := dh.grownAtNe hoo2 T B
 replace p := At.grownAt p l B Dd
 replace l := aW
 refine Ti 11 rfl rfl hS <| Td <| Zr <| Zw (.map (some E)) rfl <| Zv (db rfl eA rfl l) <| Zv (fR (enc := qC) (encV := Value.bool) (v0 := false) (k := (qX S o i)) rfl rfl ut rT (fun a => ⟨a, rfl⟩) sB oN rfl d) <| Zv (fy rfl) <| cT <| ZQ rfl (fun q => ?_) fun q => ?_
 refine Zr <| Zw (.map (some E)) rfl <| Zv (db rfl eA rfl l) ?_
 refine gS (dd := none) rfl rfl rfl (fI (enc := qC) (encV := Value.bool) (k := (qX S o i)) (v := true) rfl rfl rfl ut rT (fun a => ⟨a, rfl⟩) sB d (fun bs K aX => ?_))
 replace hB := Zg hB K aq
 replace f := At.grownMap f d K
 replace g := At.grownMap g d K
 replace ho_hP8_8 := dh.grownMap ho_hP8_8 d K
 replace hoo2 := dh.grownMap hoo2 d K
 replace p := At.grownMap p d K
 replace l := At.grownMap l d K
 replace d := aX
 rw [jj] at d
 refine cT <| cZ <| Zw v1 rfl <| Zv (db rfl eA rfl l) <| Zy (fc (u := .agg #[_, _, _]) rfl dT iu rfl Dd Dd fun U bt ae D ai => ?_)
 have aT := ZO ae hB
 have aU := dh.neB (b := U) hoo2 (Nat.le_of_eq ae.symm)
 have aV := Zn ae l.lt
 clear ae
 replace hB := Ze hB D
 replace f := D.at f
 replace g := D.at g
 replace ho_hP8_8 := D.ow ho_hP8_8
 replace d := D.mapT d
 replace hoo2 := D.ow hoo2
 replace p := D.at p
 replace l := D.at l
 refine Zy (ez (v := v1) (v2 := .slice (some ⟨U, 0, none⟩) 1 1) rfl rfl dT iu Dd hoo2 (fG ai rfl) rfl (by have := Below.size hB; omega) (by first | omega | (simp; omega) | (simp only [cV, cW, cX, da, de]; omega)) (by first | omega | (simp; omega) | (simp only [cV, cW, cX, da, de]; omega)) fun V bu L A => ?_)
 replace A := dh.snoc (enc := gv) (x := (qX S o i)) rfl rfl rfl rfl A
 replace hB := ZG hB L hoo2
 replace f := At.grownOw f hoo2 L Dd
 replace g := At.grownOw g hoo2 L Dd
 replace ho_hP8_8 := dh.grownOw ho_hP8_8 hoo2 L Dd
 replace d := dR.grownOw d hoo2 L
 replace p := At.grownOw p hoo2 L Dd
 replace l := At.grownOwNe l T L
 clear hoo2
 refine Zw V rfl <| cT <| aa _ _ <| cZ <| Zv (dp rfl rfl Om Om) <| Zi rfl <| cT ?_
 exact Z _ _ ((i + 1, V)) Za ⟨rfl, rfl, trivial⟩ ⟨hB, f, g, ho_hP8_8, (by first | exact d | (rw [← mS (pI (kk := qX S o i) q)]; exact d)), (by first | (rw [← ub (uw (kk := qX S o i) q)]; exact A) | (rw [← mS (pI (kk := qX S o i) q)]; exact A)), Om, trivial⟩ (by show (rE S o).length - (i + 1) < (rE S o).length - i; omega)
 refine c9 <| aa _ _ <| cZ <| Zv (dp rfl rfl Om Om) <| Zi rfl <| cT ?_
 exact Z _ _ ((i + 1, v1)) Za ⟨rfl, rfl, trivial⟩ ⟨hB, f, g, ho_hP8_8, (by first | exact d | (rw [← mS (pI (kk := qX S o i) q)]; exact d)), (by first | (rw [← ub (uw (kk := qX S o i) q)]; exact hoo2) | (rw [← mS (pI (kk := qX S o i) q)]; exact hoo2)), Om, trivial⟩ (by show (rE S o).length - (i + 1) < (rE S o).length - i; omega)
 refine dr <| aC _ _ <| cZ <| Zv (dp rfl rfl Om Om) <| Zi rfl <| cT ?_
 exact az _ _ ((o + 1, v1)) Za ⟨rfl, rfl, trivial⟩ ⟨hB, f, (by rw [Cv]; have e : i = (rE S o).length := Om; subst e; exact d), (by rw [Cv]; have e : i = (rE S o).length := Om; subst e; exact hoo2), Om, trivial⟩ (by show S.on.length - (o + 1) < S.on.length - o; omega)
 refine dr <| ay _ _ <| Zr <| Zw v0 rfl <| Zw v0 rfl <| Zw (.int .i64 0) rfl <| cT <| Zt <| dZ (v := v0) rfl (v1 := .int .i64 0) rfl ⟨hB, ?_⟩
 obtain rfl : o = S.on.length := by omega
 rw [if_pos hr]
 exact ⟨_, rfl, ho⟩
end
section
open Go Go.RowKit
end
section
open Go Go.RowKit
def wO (l : List Rw) (ks : List Int) : Nat → List Rw
 | 0 => []
 | k + 1 => if (k : Int) ∈ ks then wO l ks k ++ [l.getD k ⟨⟨0, 0⟩, 0⟩] else wO l ks k
theorem Mv {l : List Rw} {ks : List Int} {k : Nat} (h : (k : Int) ∈ ks) : wO l ks k ++ [l.getD k ⟨⟨0, 0⟩, 0⟩] = wO l ks (k + 1) := (if_pos h).symm
theorem Mw {l : List Rw} {ks : List Int} {k : Nat} (h : ¬ (k : Int) ∈ ks) : wO l ks k = wO l ks (k + 1) := (if_neg h).symm
theorem uO (l : List Rw) (ks : List Int) : ∀ k, (wO l ks k).length = (kC ks k).length
 | 0 => rfl
 | k + 1 => by
  rw [wO, iX]
  split
  ·rw [List.length_append, List.length_append, uO l ks k]; rfl
  ·exact uO l ks k
theorem IE (l : List Rw) (ks : List Int) (k : Nat) : (wO l ks k).length ≤ ks.length := by rw [uO]; exact Ag ks k
theorem DQ (l : List Rw) (ks : List Int) (k : Nat) : (wO l ks k).length ≤ k := by rw [uO]; exact lx ks k
theorem xn {l : List Rw} {m : Nat} (h : m < l.length) : l.take m ++ [l.getD m ⟨⟨0, 0⟩, 0⟩] = l.take (m + 1) := by
 rw [List.take_add_one, List.getD_eq_getElem?_getD, List.getElem?_eq_getElem h]; rfl
theorem EB {l : List Rw} {ks : List Int} : ∀ k, k ≤ l.length → (wO l ks k).Sublist (l.take k)
 | 0, _ => by simp [wO]
 | k + 1, hk => by
  have ih := EB (l := l) (ks := ks) k (by omega)
  rw [wO, ← xn (by omega : k < l.length)]
  split
  ·exact ih.append (List.Sublist.refl _)
  ·exact ih.trans (List.sublist_append_left _ _)
def Oc (n : Nat) (ks : List Int) : List Bool := (List.range n).map fun c : Nat => decide ((c : Int) ∈ ks)
theorem DR {n : Nat} {ks : List Int} {k : Nat} (h : k < n) : (Oc n ks).getD k false = decide ((k : Int) ∈ ks) := by
 unfold Oc
 rw [List.getD_eq_getElem?_getD, List.getElem?_map, List.getElem?_range h]
 rfl
theorem Hq {l : List Rw} {ks : List Int} : ∀ k, k ≤ l.length → wO l ks k = JT l (Oc l.length ks) k
 | 0, _ => rfl
 | k + 1, hk => by
  rw [wO, JT, Hq k (by omega), DR (show k < l.length by omega)]
  simp only [decide_eq_true_eq]
theorem H8 {n : Nat} {ks : List Int} : ∀ k, k ≤ n → Kl (Oc n ks) k = kC ks k
 | 0, _ => rfl
 | k + 1, hk => by
  rw [Kl, iX, H8 k (by omega), DR (show k < n by omega)]
  simp only [decide_eq_true_eq]
section
variable {S : Sp}
theorem Fp (hr : dP S = true) (h4 : S.n ≤ 4) (h3 : S.on.length ≤ 3) : (eR S).length ≤ 2048 := by
 obtain ⟨h0, h8, _, _, h5, _⟩ := d7.1 hr
 have hn : (eR S).Nodup := (oE S _).imp fun h e => by rw [e, vB] at h; cases h
 have h := sT (b := (List.range 2048).map fun q => (⟨⟨q % 16, q / 16 % 16⟩, q / 256⟩ : Rw)) hn fun x hx => ?_
 ·simpa using h
 ·have hp := (fC.1 ((nT hr).1 hx))
  have ho := (oq hp.1).1
  have hrt := gn hp.1
  obtain ⟨r1, r2, r3, r4⟩ := dW.1 hrt
  have hp3 : 2 ^ S.may.length ≤ 2 ^ 3 := Nat.pow_le_pow_right (by decide) (by omega)
  have hp4 : 2 ^ S.n.toNat ≤ 2 ^ 4 := Nat.pow_le_pow_right (by decide) (by omega)
  have hm : x.c.m < 16 := by omega
  have hvm : x.c.v ≤ x.c.m := by rw [← r4]; exact Nat.and_le_right
  have hv : x.c.v < 16 := by omega
  refine List.mem_map.2 ⟨x.c.m + 16 * x.c.v + 256 * x.o, List.mem_range.2 (by omega), ?_⟩
  have e1 : (x.c.m + 16 * x.c.v + 256 * x.o) % 16 = x.c.m := by omega
  have e2 : (x.c.m + 16 * x.c.v + 256 * x.o) / 16 % 16 = x.c.v := by omega
  have e3 : (x.c.m + 16 * x.c.v + 256 * x.o) / 256 = x.o := by omega
  rw [e1, e2, e3]
theorem uf (hr : dP S = true) : ∀ q, q < (eR S).length → pM S ((eR S).getD q ⟨⟨0, 0⟩, 0⟩) = true := fun q hq => (fC.1 (oe hr hq)).1
theorem CH (hr : dP S = true) (hl : (eR S).length ≤ 4000) {ks : List Int} (h : mp (lp S (eR S)) ks) : ju S (wO (eR S) ks (eR S).length) = true := by
 rw [Hq _ (Nat.le_refl _)]
 have hm := My (bs := Oc (eR S).length ks) hr (uf hr) hl (Nat.le_refl _)
 have hs : oF (lp S (eR S)) (Kl (Oc (eR S).length ks) (eR S).length) = true := by
  rw [H8 _ (Nat.le_refl _)]
  have := pV (jS (S := S) hl) h
  rw [Int.toNat_natCast] at this
  exact DM.2 this
 rw [jS hl, hs] at hm
 exact hm.symm
theorem JZ (hr : dP S = true) (hl : (eR S).length ≤ 4000) : mp (lp S (eR S)) (N6 (eR S).length) := by
 have hm := My (bs := Oc (eR S).length (N6 (eR S).length)) hr (uf hr) hl (Nat.le_refl _)
 have e : wO (eR S) (N6 (eR S).length) (eR S).length = eR S := by
  have key : ∀ k, k ≤ (eR S).length → wO (eR S) (N6 (eR S).length) k = (eR S).take k := by
   intro k
   induction k with
   | zero => intro _; simp [wO]
   | succ k ih =>
    intro hk
    rw [wO, if_pos (J2.2 ⟨by omega, by omega⟩), ih (by omega), xn (by omega)]
  rw [key _ (Nat.le_refl _), List.take_length]
 rw [← Hq _ (Nat.le_refl _), e, H8 _ (Nat.le_refl _), Ew hr, jS hl, Bool.true_and] at hm
 have h2 : oF (lp S (eR S)) (kC (N6 (eR S).length) (eR S).length) = true := hm
 exact wr (DM.1 h2) fun c hc => (py.1 hc).1
theorem LP {L : ML} {X : List Int} (h : mp L X) : i5 L L.length = true := HU.2 fun i hi => by
 obtain ⟨c, h1, _⟩ := h _ (dS (d := []) hi)
 exact List.length_pos_of_mem h1
theorem N0 (hr : dP S = true) {Z : List Rw} (h : ju S Z = true) {i : Nat} (hi : i < Z.length) : pM S (Z.getD i ⟨⟨0, 0⟩, 0⟩) = true := by
 obtain ⟨_, hm, hc⟩ := gX.1 h
 obtain ⟨h0, h8, h1, h4, h5, hin⟩ := d7.1 hr
 have hok := jd.1 (kq.1 hm i hi)
 refine gy.2 ⟨hr, hok.2.1, fun j hj => ?_⟩
 have hjl : j < S.on.length := by
  rcases Nat.lt_or_ge j S.on.length with k | k
  ·exact k
  ·have := fZ.1 hok.2.2 j k
   rw [hj] at this; cases this
 refine ⟨by omega, f6.2 ⟨hok.1, fun p hp hh => ?_⟩⟩
 refine ((mq hr hm hjl).1 (hc j hjl) p hp).2 (rr.2 ⟨i, hi, ?_⟩)
 rw [hj, Bool.true_and]
 unfold pf
 rw [decide_eq_true_eq, (dW.1 hok.1).2.2.2]
 exact hh
theorem LZ (hr : dP S = true) {Z : List Rw} (h : ju S Z = true) : ∃ Y : List Int, Y.Nodup ∧ mp (lp S (eR S)) Y ∧ Y.length ≤ Z.length := by
 obtain ⟨_, hm, hc⟩ := gX.1 h
 have place : ∀ z, ∃ c : Nat, z ∈ Z → pM S z = true → c < (eR S).length ∧ q9 ((eR S).getD c ⟨⟨0, 0⟩, 0⟩) z = true := fun z => by
  by_cases hz : pM S z = true
  ·obtain ⟨j, h1, h2⟩ := (qt _).1 (Em hz)
   exact ⟨j, fun _ _ => ⟨h1, h2⟩⟩
  ·exact ⟨0, fun _ k => absurd k hz⟩
 let idx : Rw → Int := fun z => ((Classical.choose (place z) : Nat) : Int)
 have hidx : ∀ z, z ∈ Z → pM S z = true → ∃ c : Nat, idx z = (c : Int) ∧ c < (eR S).length ∧ q9 ((eR S).getD c ⟨⟨0, 0⟩, 0⟩) z = true := fun z h1 h2 => ⟨_, rfl, Classical.choose_spec (place z) h1 h2⟩
 have fold : ∀ (l : List Rw) (acc : List Int), acc.Nodup → ((l.foldl (fun a z => iB a (idx z)) acc).Nodup ∧ (l.foldl (fun a z => iB a (idx z)) acc).length ≤ acc.length + l.length ∧ ∀ x, x ∈ acc ∨ (∃ z, z ∈ l ∧ x = idx z) → x ∈ l.foldl (fun a z => iB a (idx z)) acc) := by
  intro l
  induction l with
  | nil => intro acc ha; exact ⟨ha, by simp, fun x hx => hx.elim id fun ⟨z, hz, _⟩ => by cases hz⟩
  | cons z l ih =>
   intro acc ha
   obtain ⟨i1, i2, i3⟩ := ih (iB acc (idx z)) (jl ha _)
   have hl := pn acc (idx z)
   refine ⟨i1, ?_, fun x hx => i3 x ?_⟩
   ·rw [List.foldl_cons, List.length_cons]; omega
   ·rcases hx with hx | ⟨y, hy, e⟩
    ·exact .inl (gm.2 (.inl hx))
    ·rcases List.mem_cons.1 hy with q | q
     ·rw [q] at e; exact .inl (gm.2 (.inr e))
     ·exact .inr ⟨y, q, e⟩
 obtain ⟨f1, f2, f3⟩ := fold Z [] List.nodup_nil
 refine ⟨_, f1, fun r hr2 => ?_, by simpa using f2⟩
 obtain ⟨q, hq, j, hj, e⟩ := (nQ _).1 (ma.1 hr2)
 obtain ⟨p, hp, hpb, hpe⟩ := kO hj
 rw [hpe, Int.toNat_natCast] at e
 have hpn : p < 2 ^ S.n.toNat := Mm hr hq hpb hp
 obtain ⟨i, hi, hb⟩ := rr.1 (((mq hr hm hq).1 (hc q hq) p hpn).1 hpb)
 rw [Bool.and_eq_true] at hb
 have hz : Z.getD i ⟨⟨0, 0⟩, 0⟩ ∈ Z := dS hi
 have hin : pM S (Z.getD i ⟨⟨0, 0⟩, 0⟩) = true := N0 hr h hi
 obtain ⟨c, h1, h2, h3⟩ := hidx _ hz hin
 obtain ⟨h4, h5⟩ := oD.1 h3
 refine ⟨(c : Int), ?_, f3 _ (.inr ⟨_, hz, h1.symm⟩)⟩
 rw [e]
 refine nA.2 ⟨c, rfl, h2, ?_⟩
 unfold FV
 rw [h5 q hb.1, Bool.true_and]
 have hv1 := (dW.1 (gn hin)).2.2.2
 have hv2 := (dW.1 (gn (uf hr c h2))).2.2.2
 have hp1 := of_decide_eq_true hb.2
 rw [hv1] at hp1
 unfold pf
 rw [decide_eq_true_eq, hv2]
 exact lh hv2 h4 hp1
end
structure L5 (S : Sp) (R : List Rw) : Prop where
 cov : ju S R = true
 sub : R.Sublist (eR S)
 min : ∀ Z, ju S Z = true → R.length ≤ Z.length
theorem L7 {S : Sp} {L : ML} {T X ks : List Int} (hr : dP S = true) (hl : (eR S).length ≤ 4000) (h : lD (lp S (eR S)) L T) (k : Kt L ((eR S).length : Int) X) (hk : ∀ c, c ∈ ks ↔ c ∈ T ++ X) (hn : ks.Nodup) : L5 S (wO (eR S) ks (eR S).length) := by
 obtain ⟨h1, h2⟩ := Kt.both h k
 refine ⟨CH hr hl (wr h1 fun c hc => (hk c).2 hc), ?_, fun Z hZ => ?_⟩
 ·have := EB (l := eR S) (ks := ks) _ (Nat.le_refl _)
  rwa [List.take_length] at this
 ·obtain ⟨Y, y1, y2, y3⟩ := LZ hr hZ
  have := h2 Y y1 y2
  have h3 := IE (eR S) ks (eR S).length
  have h4 := sT hn fun c hc => (hk c).1 hc
  omega
end
end Go.Proofs.YteimkklmmanncaaGreat
