/- The walks of package isop. The walks of isop.Cover, isop.Grown, and of the document's cover. What the statements about covers need: points of cubes but for one, what grown cubes are. No program in it. Plain words for plain rows: the grown cubes of each output, grown once more, each once. No program  -/
import Derived.Test.YteimkklmmanncaaGreatWThin
namespace Go.Proofs.YteimkklmmanncaaGreat
set_option linter.unusedVariables false
set_option linter.unusedSimpArgs false
section
open Go Go.RowKit
theorem Ol76_0 {p : Prop} (h : p := by first | omega | (simp only [cV, cW, cX, da]; omega)) : p := h
theorem Dp : fy Tryz.prog 157 0 = some 0 := by kernel_rfl
theorem pG : lu Tryz.prog 157 = some 5 := by kernel_rfl
theorem vk : dD Tryz.prog 113 = true := by kernel_rfl
theorem E8 : dD Tryz.prog 129 = true := by kernel_rfl
theorem sG : fv Tryz.prog 66 = true := by kernel_rfl
theorem De : fy Tryz.prog 157 1 = some 1 := by kernel_rfl
theorem FL : dD Tryz.prog 127 = true := by kernel_rfl
theorem N5 : eO Tryz.prog 66 = some (.slice none 0 0) := by kernel_rfl
theorem FX : dD Tryz.prog 128 = true := by kernel_rfl
theorem ud (s : Nat) (i : Int) (one : Bool) (w : World) :
    Fn Tryz.prog 127 #[eT s, .int .i64 i, .bool one] w fun v w' => v = eT (if 0 ≤ i ∧ i < 8 then dp s i.toNat one else 0) := by
 refine dq (n := 31) Tryz.func127 rfl rfl (Nat.le_of_ble_eq_true rfl) ?_
 have hB : Below w.heap.size w w := Below.refl _ _
 refine Zr <| Zy (dY (c := #[_, _, _, _]) rfl rfl fun P W3 D Q a => ?_)
 have al := ZO D hB
 clear D
 replace hB := Ze hB Q
 refine Zy (dt eR rfl fun E W6 x F b => ?_)
 have R := ZO x hB
 have S := Zn x a.lt
 clear x
 replace hB := Ze hB F
 replace a := F.at a
 replace b : At W6 E #[wv 0 0, wv 0 1, wv 0 2, wv 0 3] 49 := b
 refine cT <| Zr <| Zv (db rfl df rfl a) <| Zi rfl <| Zb rfl <| ZC (vs := [.agg #[_, _, _, _], .int .i64 _, .bool _]) z8 (wE _ _ _ _) rfl fun ao ap y T => ?_
 replace hB := Ze hB y
 replace a := y.at a
 replace b := y.at b
 obtain rfl := T
 generalize hH : (if 0 ≤ i ∧ i < 8 then po s i.toNat one else 0) = H
 refine Zy (dt eR rfl fun G U r z d => ?_)
 have V := ZO r hB
 have X := Zn r a.lt
 have I := Zn r b.lt
 clear r
 replace hB := Ze hB z
 replace a := z.at a
 replace b := z.at b
 replace d : At U G #[wv 0 0, wv 0 1, wv 0 2, wv 0 3] 49 := d
 refine Zy (dg rfl rfl df rfl d rfl rfl fun aq A Y => ?_)
 replace hB := Zg hB A V
 replace a := At.grownNe a X A
 replace b := At.grownNe b I A
 replace d := Y
 refine cT <| Zr <| Zv (db rfl df rfl d) <| Zy (dt eR rfl fun J Z j t e => ?_)
 have K := ZO j hB
 have L := Zn j a.lt
 have B := Zn j b.lt
 have M := Zn j d.lt
 clear j
 replace hB := Ze hB t
 replace a := t.at a
 replace b := t.at b
 replace d := t.at d
 replace e : At Z J #[wv 0 0, wv 0 1, wv 0 2, wv 0 3] 49 := e
 refine Zy (dg rfl rfl df rfl e rfl rfl fun ar u aa => ?_)
 replace hB := Zg hB u K
 replace a := At.grownNe a L u
 replace b := At.grownNe b B u
 replace d := At.grownNe d M u
 replace e := aa
 refine cT <| cY fun au ab => Zr <| Zv (db rfl df rfl d) <| ZC (vs := [.agg #[_, _, _, _]]) wz (mF _ _) rfl fun C av l f => ?_
 have ac := (Below.size hB)
 replace hB := Ze hB l
 replace a := l.at a
 replace b := l.at b
 replace d := l.at d
 replace e := l.at e
 replace f := dh.mono f ac
 refine Zv (dz (v := C) rfl f.sl dw) <| Zw (.int .i64 0) rfl <| cT <| c9 ?_
 refine dy (σ := (Nat)) [10, 19, 20, 21, 22, 23, 24, 25, 26, 27, 28, 29] (fun k => [(19, .int .i64 (k : Int))]) (fun k W => (Below w.heap.size w W) ∧ (At W P _ 49) ∧ (At W E _ 49) ∧ (At W G _ 49) ∧ (dh ef 1 3 W w.heap.size C _) ∧ (At W J #[wv (j7 (eq H) H i.toNat k) 0, wv (j7 (eq H) H i.toNat k) 1, wv (j7 (eq H) H i.toNat k) 2, wv (j7 (eq H) H i.toNat k) 3] 49) ∧ (k ≤ (eq H).length) ∧ (True)) (fun k => (eq H).length - k) (0) ⟨rfl, trivial⟩ ⟨hB, a, b, d, f, e, (Nat.zero_le _), trivial⟩ ?_
 clear hB a b d e f
 rintro k aw ax ⟨hB, a, b, d, f, e, hk, _⟩ ay ad
 have hll := lh H
 refine Zr <| Zv (dM rfl rfl) <| cT <| cY fun az ae => ZQ rfl (fun N => ?_) fun N => ?_
 refine c7 <| ae _ _ <| cY fun aA af => c9 ?_
 have hi8 : 0 ≤ i ∧ i < 8 := MV hH N
 obtain ⟨p, aB, aC, O⟩ := lp (s := H) (i := k) (by omega)
 have h7 := xW (show i.toNat < 8 by omega)
 refine Zr <| Zv (dF (v := C) rfl f.sl rfl dw Om Ol76_0) <| Zv (dk (v := .int .i64 _) rfl du (dN.cell f.sl eI 0 Om Ol76_0 0 rfl)) <| Zi rfl <| cT ?_
 have ag : (eq H).getD (k : Int).toNat 0 = (p : Int) := O
 rw [ag]
 refine gD ep iC (fun ah h => ?_)
 replace hB := Ze hB h
 replace a := h.at a
 replace b := h.at b
 replace d := h.at d
 replace f := h.ow f
 replace e := h.at e
 have hS := ep.refl ah
 refine Tk 0 rfl (fun _ hq => db rfl df rfl (hq.at e)) hS <| Ti 1 rfl rfl hS <| Ti 2 rfl rfl hS <| Tk 3 rfl (fun _ _ => jU (m := 1) rfl rfl Om (by simp only [IntKind.bits]; omega) (by simp only [d8]; omega)) hS <| Tk 4 rfl (fun _ _ => Ib (n := _) rfl rfl rfl (by simp only [d8]; omega) (by simp only [d8]; omega)) hS <| To 5 rfl (TC (vs := [.agg #[_, _, _, _], .int .i64 _]) wh (mL _ _ _) rfl fun aD aE g ai => ⟨.inl (hS.trans g), ?_⟩)
 replace hB := Ze hB g
 replace a := g.at a
 replace b := g.at b
 replace d := g.at d
 replace f := g.ow f
 replace e := g.at e
 replace hS := hS.trans g
 obtain rfl := ai
 refine To 6 rfl (dg rfl rfl df rfl e rfl rfl fun aF o aj => ⟨.inr (by kernel_rfl), ?_⟩)
 replace hB := Zg hB o K
 replace a := At.grownNe a L o
 replace b := At.grownNe b B o
 replace d := At.grownNe d M o
 replace f := dh.grownAt f e o Dd
 replace e := aj
 refine Td <| af _ _ <| cZ <| Zv (dm rfl rfl Om Om) <| Zi rfl <| cT ?_
 exact ad _ _ (k + 1) Za ⟨rfl, trivial⟩ ⟨hB, a, b, d, f, (by rw [uu Om, O, Int.toNat_natCast, ← Nat.one_mul (2 ^ i.toNat)]; exact e), Om, trivial⟩ Zo
 refine dr <| ab _ _ <| Zr <| Zv (db rfl df rfl e) <| Zy (dg rfl rfl df rfl b rfl rfl fun aG q ak => ?_)
 replace hB := Zg hB q R
 replace a := At.grownNe a S q
 replace d := At.grownNe d (Ne.symm I) q
 replace f := dh.grownAt f b q Dd
 replace e := At.grownNe e (Ne.symm B) q
 replace b := ak
 refine cT <| Zt <| jS rfl df b rfl ⟨hB, ?_⟩
 obtain rfl : k = (eq H).length := by omega
 rw [HO hH]
theorem ma (n : Nat) (x : Value) (l : List Cb) (w : World) (h8 : n ≤ 8) (hl : dN ik 2 w x l) (hr : ∀ c, c ∈ l → c.m < 2 ^ n ∧ c.v &&& c.m = c.v) (hlb : l.length ≤ 100000) :
    Fn Tryz.prog 129 #[.agg #[.int .i64 (n : Int), wv (fo n) 0, wv (fo n) 1, wv (fo n) 2, wv (fo n) 3], x] w fun v w' => v = eT (k8 l n l.length) := by
 refine dq (n := 28) Tryz.func129 rfl rfl (Nat.le_of_ble_eq_true rfl) ?_
 have hB : Below w.heap.size w w := Below.refl _ _
 refine Zr <| Zy (dY (c := #[_, _, _, _, _]) rfl rfl fun H W3 y I d => ?_)
 have ac := ZO y hB
 clear y
 replace hB := Ze hB I
 refine Zy (dt eR rfl fun z W6 A B a => ?_)
 have J := ZO A hB
 clear A
 replace hB := Ze hB B
 replace d := B.at d
 replace a : At W6 z #[wv 0 0, wv 0 1, wv 0 2, wv 0 3] 49 := a
 refine cT <| Zr <| Zy (dt eR rfl fun C K s t b => ?_)
 have L := ZO s hB
 have D := Zn s a.lt
 clear s
 replace hB := Ze hB t
 replace d := t.at d
 replace a := t.at a
 replace b : At K C #[wv 0 0, wv 0 1, wv 0 2, wv 0 3] 49 := b
 refine cT <| cY fun ad M => Zr <| Zw x rfl <| Zv (dz (v := x) rfl (Below.slT hB hl) fh) <| Zw (.int .i64 0) rfl <| cT <| c9 ?_
 refine dy (σ := (Nat)) [7, 8, 9, 12, 13, 14, 15, 16, 17, 18, 19, 20, 21, 22, 23, 24, 25, 26] (fun k => [(12, .int .i64 (k : Int))]) (fun k W => (Below w.heap.size w W) ∧ (At W H _ 157) ∧ (At W z _ 49) ∧ (At W C #[wv (k8 l n k) 0, wv (k8 l n k) 1, wv (k8 l n k) 2, wv (k8 l n k) 3] 49) ∧ (k ≤ l.length) ∧ (True)) (fun k => l.length - k) (0) ⟨rfl, trivial⟩ ⟨hB, d, a, b, (Nat.zero_le _), trivial⟩ ?_
 clear hB d a b
 rintro k ae af ⟨hB, d, a, b, hk, _⟩ ag N
 refine Zr <| Zv (dM rfl rfl) <| cT <| cY fun ah O => ZQ rfl (fun P => ?_) fun P => ?_
 refine c7 <| O _ _ <| cY fun ai Q => c9 ?_
 obtain ⟨hr1, hr2⟩ := hr (l.getD k ⟨0, 0⟩) (dV (by omega))
 have hle256 := fW h8
 have hr3 : (l.getD k ⟨0, 0⟩).v ≤ (l.getD k ⟨0, 0⟩).m := by rw [← hr2]; exact Nat.and_le_right
 have hrr : d7 (l.getD k ⟨0, 0⟩).m (l.getD k ⟨0, 0⟩).v (n : Int) = true := d4.2 ⟨by omega, by omega, hr1, hr2⟩
 refine Zr <| Zv (dF (v := x) rfl (Below.slT hB hl) rfl fh Om Ol76_0) <| Zv (iy rfl dQ (dN.cell (Below.slT hB hl) gt ⟨0, 0⟩ Om Ol76_0 0 rfl) (dN.cell (Below.slT hB hl) gt ⟨0, 0⟩ Om Ol76_0 1 rfl)) <| Zy (dt jl rfl fun aj ak E p e => ?_)
 have R := ZO E hB
 clear E
 replace hB := Ze hB p
 replace d := p.at d
 replace a := p.at a
 replace b := p.at b
 refine Zy (dg rfl rfl dQ rfl e rfl rfl fun al q S => ?_)
 replace hB := Zg hB q R
 replace d := At.grownAt d e q Dd
 replace a := At.grownAt a e q Dd
 replace b := At.grownAt b e q Dd
 replace e := S
 refine cT <| Zr <| Zv (db rfl dQ rfl e) <| Zf rfl Dp <| Zl rfl du d rfl <| ZC (vs := [.agg #[_, _], .int .i64 _]) zX (lB _ _ (n : Int) _ (by show (l.getD k ⟨0, 0⟩).m < 256; omega) (by show (l.getD k ⟨0, 0⟩).v < 256; omega)) rfl fun ao ap h F => ?_
 replace hB := Ze hB h
 replace d := h.at d
 replace a := h.at a
 replace b := h.at b
 replace e := h.at e
 rw [if_pos (show d7 (l.getD ((k : Nat) : Int).toNat ⟨0, 0⟩).m (l.getD ((k : Nat) : Int).toNat ⟨0, 0⟩).v (n : Int) = true from hrr)] at F
 obtain rfl := F
 refine Zw (.tuple #[.agg #[_, _, _, _], .int .i64 _]) rfl <| Zv (dG rfl) <| Zv (dJ rfl) <| Zy (dt eR rfl fun T U r i f => ?_)
 have V := ZO r hB
 have X := Zn r a.lt
 have G := Zn r b.lt
 clear r
 replace hB := Ze hB i
 replace d := i.at d
 replace a := i.at a
 replace b := i.at b
 replace e := i.at e
 replace f : At U T #[wv 0 0, wv 0 1, wv 0 2, wv 0 3] 49 := f
 refine Zy (dg rfl rfl df rfl f rfl rfl fun aq j Y => ?_)
 replace hB := Zg hB j V
 replace d := At.grownAt d f j Dd
 replace a := At.grownNe a X j
 replace b := At.grownNe b G j
 replace e := At.grownAt e f j Dd
 replace f := Y
 refine Zi rfl <| cT <| cZ <| Zv (db rfl df rfl b) <| Zv (db rfl df rfl f) <| ZC (vs := [.agg #[_, _, _, _], .agg #[_, _, _, _]]) sv (sd _ _ _) rfl fun ar au g Z => ?_
 replace hB := Ze hB g
 replace d := g.at d
 replace a := g.at a
 replace b := g.at b
 replace e := g.at e
 replace f := g.at f
 obtain rfl := Z
 refine Zy (dg rfl rfl df rfl b rfl rfl fun av o aa => ?_)
 replace hB := Zg hB o L
 replace d := At.grownAt d b o Dd
 replace a := At.grownNe a D o
 replace e := At.grownAt e b o Dd
 replace f := At.grownNe f (Ne.symm G) o
 replace b := aa
 refine cT <| Q _ _ <| cZ <| Zv (dm rfl rfl Om Om) <| Zi rfl <| cT ?_
 exact N _ _ (k + 1) Za ⟨rfl, trivial⟩ ⟨hB, d, a, (by exact b), Om, trivial⟩ Zo
 refine dr <| M _ _ <| Zr <| Zv (db rfl df rfl b) <| Zy (dg rfl rfl df rfl a rfl rfl fun aw u ab => ?_)
 replace hB := Zg hB u J
 replace d := At.grownAt d a u Dd
 replace b := At.grownNe b (Ne.symm D) u
 replace a := ab
 refine cT <| Zt <| jS rfl df a rfl ⟨hB, ?_⟩
 obtain rfl : k = l.length := by omega
 rfl
theorem R4 (n f i on may N bm bons bmays bi brest bout rest : Nat) (v0 : Value) (out : List Cb) (w : World) (hN0 : N ≤ w.heap.size) (hih : ∀ (on may i : Nat) (w : World), n ≤ 8 → m8 n on may i → n + 1 - i ≤ f → f ≤ 9 → Fn Tryz.prog 113 #[.agg #[.int .i64 (n : Int), wv (fo n) 0, wv (fo n) 1, wv (fo n) 2, wv (fo n) 3], eT on, eT may, .int .i64 (i : Int)] w fun v w' => dh ik 2 40 w' w.heap.size v (eM n f on may i)) (h8 : n ≤ 8) (hg : m8 n on may i) (hi : i < n) (hf : n + 1 - (i + 1) ≤ f) (hf9 : f ≤ 8) (hm : At w bm #[.int .i64 (n : Int), wv (fo n) 0, wv (fo n) 1, wv (fo n) 2, wv (fo n) 3] 157) (hons : At w bons (mQ (dp on i false) (dp on i true)) 164) (hmays : At w bmays (mQ (dp may i false) (dp may i true)) 164) (hbi : At w bi #[.int .i64 (i : Int)] 3) (hrest : At w brest #[wv rest 0, wv rest 1, wv rest 2, wv rest 3] 49) (hout : At w bout #[v0] 66) (hown : dh ik 2 40 w N v0 out) (hlen : out.length ≤ 20000) (lor : N ≤ brest) (loo : N ≤ bout) :
    rl Tryz.prog 128 #[.int .i64 0, .pointer (some ⟨bm, 0, none⟩), .pointer (some ⟨bons, 0, none⟩), .pointer (some ⟨bmays, 0, none⟩), .pointer (some ⟨bi, 0, none⟩), .pointer (some ⟨brest, 0, none⟩), .pointer (some ⟨bout, 0, none⟩)] w fun v w' => Below N w w' ∧ At w' bm #[.int .i64 (n : Int), wv (fo n) 0, wv (fo n) 1, wv (fo n) 2, wv (fo n) 3] 157 ∧ At w' bons (mQ (dp on i false) (dp on i true)) 164 ∧ At w' bmays (mQ (dp may i false) (dp may i true)) 164 ∧ At w' bi #[.int .i64 (i : Int)] 3 ∧ At w' brest #[wv (rest ||| andNot (dp on i false) (k8 (eM n f (andNot (dp on i false) (dp may i true)) (dp may i false) (i + 1)) n (eM n f (andNot (dp on i false) (dp may i true)) (dp may i false) (i + 1)).length)) 0, wv (rest ||| andNot (dp on i false) (k8 (eM n f (andNot (dp on i false) (dp may i true)) (dp may i false) (i + 1)) n (eM n f (andNot (dp on i false) (dp may i true)) (dp may i false) (i + 1)).length)) 1, wv (rest ||| andNot (dp on i false) (k8 (eM n f (andNot (dp on i false) (dp may i true)) (dp may i false) (i + 1)) n (eM n f (andNot (dp on i false) (dp may i true)) (dp may i false) (i + 1)).length)) 2, wv (rest ||| andNot (dp on i false) (k8 (eM n f (andNot (dp on i false) (dp may i true)) (dp may i false) (i + 1)) n (eM n f (andNot (dp on i false) (dp may i true)) (dp may i false) (i + 1)).length)) 3] 49 ∧ ∃ v1, At w' bout #[v1] 66 ∧ dh ik 2 40 w' N v1 (out ++ (eM n f (andNot (dp on i false) (dp may i true)) (dp may i false) (i + 1)).map (iA i 0)) := by
 refine fc (n := 60) Tryz.func128 rfl rfl (Nat.le_of_ble_eq_true rfl) ?_
 have hB : Below N w w := Below.refl _ _
 have hi8 : i < 8 := by omega
 refine Zd ep fun W3 E => ?_
 replace hm := E.at hm
 replace hons := E.at hons
 replace hmays := E.at hmays
 replace hbi := E.at hbi
 replace hrest := E.at hrest
 replace hout := E.at hout
 replace hown := E.ow hown
 replace hB := dH hB E hN0
 have hS := ep.refl W3
 refine Tk 0 rfl (fun _ hq => db rfl pG rfl (hq.at hm)) hS <| Tw 1 (.int .i64 0) rfl rfl hS <| Tk 2 rfl (fun _ _ => fi rfl rfl gX Om Om) hS <| Tk 3 rfl (fun _ hq => fw rfl df (At.cell (hq.at hons) rfl) (At.cell (hq.at hons) rfl) (At.cell (hq.at hons) rfl) (At.cell (hq.at hons) rfl)) hS <| Tw 4 (.int .i64 0) rfl rfl hS <| Tk 5 rfl (fun _ _ => lf rfl rfl Om Om) hS <| Tk 6 rfl (fun _ _ => fi rfl rfl gX Om Om) hS <| Tk 7 rfl (fun _ hq => fw rfl df (At.cell (hq.at hmays) rfl) (At.cell (hq.at hmays) rfl) (At.cell (hq.at hmays) rfl) (At.cell (hq.at hmays) rfl)) hS <| Tw 9 (.int .i64 0) rfl rfl hS <| Tk 10 rfl (fun _ _ => fi rfl rfl gX Om Om) hS <| Tk 11 rfl (fun _ hq => fw rfl df (At.cell (hq.at hmays) rfl) (At.cell (hq.at hmays) rfl) (At.cell (hq.at hmays) rfl) (At.cell (hq.at hmays) rfl)) hS <| Tk 12 rfl (fun _ hq => dk (v := .int .i64 _) rfl du (At.cell (hq.at hbi) rfl)) hS <| Tk 13 rfl (fun _ _ => dm rfl rfl Om Om) hS <| To 8 rfl (TC (vs := [.agg #[_, _, _, _], .agg #[_, _, _, _]]) vO (mG _ _ _) rfl fun aq W5 l S => ⟨.inl (hS.trans l), ?_⟩)
 replace hm := l.at hm
 replace hons := l.at hons
 replace hmays := l.at hmays
 replace hbi := l.at hbi
 replace hrest := l.at hrest
 replace hout := l.at hout
 replace hown := l.ow hown
 replace hB := dH hB l hN0
 replace hS := hS.trans l
 obtain rfl := S
 refine To 14 rfl (TC (vs := [.agg #[_, _, _, _, _], .agg #[_, _, _, _], .agg #[_, _, _, _], .int .i64 _]) vk (hih _ _ (i + 1) _ h8 (hg.side h8 hi false) hf (Nat.le_trans hf9 Dd)) rfl fun F W9 o a => ⟨.inl (hS.trans o), ?_⟩)
 have T := dh.lt2 hown
 have U := (Nat.le_trans hN0 (Below.size hB))
 replace hm := o.at hm
 replace hons := o.at hons
 replace hmays := o.at hmays
 replace hbi := o.at hbi
 replace hrest := o.at hrest
 replace hout := o.at hout
 replace hown := o.ow hown
 replace hB := dH hB o hN0
 replace hS := hS.trans o
 have Q := eP.new T a
 replace a := dh.mono a U
 have hcm : jn n (dp may i false) (i + 1) (eM n f (andNot (dp on i false) (dp may i true)) (dp may i false) (i + 1)) := (kH h8 f _ _ _ (hg.side h8 hi false) hf).1
 have hcl := iW (n := n) f (andNot (dp on i false) (dp may i true)) (dp may i false) (i + 1)
 have h3f : 3 ^ f ≤ 3 ^ 8 := Nat.pow_le_pow_right (by decide) hf9
 try simp only [Bool.not_false, Bool.not_true] at a
 generalize hL : eM n f (andNot (dp on i false) (dp may i true)) (dp may i false) (i + 1) = L at *
 refine Tw 15 F rfl rfl hS <| Td <| Zd ep fun V t => ?_
 replace hm := t.at hm
 replace hons := t.at hons
 replace hmays := t.at hmays
 replace hbi := t.at hbi
 replace hrest := t.at hrest
 replace hout := t.at hout
 replace hown := t.ow hown
 replace hB := dH hB t hN0
 replace a := t.ow a
 have hS := ep.refl V
 refine Tk 0 rfl (fun _ hq => db rfl df rfl (hq.at hrest)) hS <| Tw 1 (.int .i64 0) rfl rfl hS <| Tk 2 rfl (fun _ _ => fi rfl rfl gX Om Om) hS <| Tk 3 rfl (fun _ hq => fw rfl df (At.cell (hq.at hons) rfl) (At.cell (hq.at hons) rfl) (At.cell (hq.at hons) rfl) (At.cell (hq.at hons) rfl)) hS <| Tk 4 rfl (fun _ hq => db rfl pG rfl (hq.at hm)) hS <| Tw 5 F rfl rfl hS <| To 6 rfl (TC (vs := [.agg #[_, _, _, _, _], F]) E8 (ma n _ L _ h8 a.sl (fun c hc => ⟨(hcm c hc).1, (hcm c hc).2.1⟩) Om) rfl fun ar au e X => ⟨.inl (hS.trans e), ?_⟩)
 replace hm := e.at hm
 replace hons := e.at hons
 replace hmays := e.at hmays
 replace hbi := e.at hbi
 replace hrest := e.at hrest
 replace hout := e.at hout
 replace hown := e.ow hown
 replace hB := dH hB e hN0
 replace a := e.ow a
 replace hS := hS.trans e
 obtain rfl := X
 refine To 7 rfl (TC (vs := [.agg #[_, _, _, _], .agg #[_, _, _, _]]) vO (mG _ _ _) rfl fun av aw g Y => ⟨.inl (hS.trans g), ?_⟩)
 replace hm := g.at hm
 replace hons := g.at hons
 replace hmays := g.at hmays
 replace hbi := g.at hbi
 replace hrest := g.at hrest
 replace hout := g.at hout
 replace hown := g.ow hown
 replace hB := dH hB g hN0
 replace a := g.ow a
 replace hS := hS.trans g
 obtain rfl := Y
 refine To 8 rfl (TC (vs := [.agg #[_, _, _, _], .agg #[_, _, _, _]]) sv (sd _ _ _) rfl fun ax ay h Z => ⟨.inl (hS.trans h), ?_⟩)
 replace hm := h.at hm
 replace hons := h.at hons
 replace hmays := h.at hmays
 replace hbi := h.at hbi
 replace hrest := h.at hrest
 replace hout := h.at hout
 replace hown := h.ow hown
 replace hB := dH hB h hN0
 replace a := h.ow a
 replace hS := hS.trans h
 obtain rfl := Z
 refine To 9 rfl (dg rfl rfl df rfl hrest rfl rfl fun az y aa => ⟨.inr (by kernel_rfl), ?_⟩)
 replace hm := At.grownAt hm hrest y Dd
 replace hons := At.grownAt hons hrest y Dd
 replace hmays := At.grownAt hmays hrest y Dd
 replace hbi := At.grownAt hbi hrest y Dd
 replace hout := At.grownAt hout hrest y Dd
 replace hown := dh.grownAt hown hrest y Dd
 replace hB := dA hB y hN0 (fun j hj => by cases hj; exact lor)
 replace a := dh.grownAt a hrest y Dd
 clear y hrest
 replace hrest := aa
 refine Td <| Zr <| Zw F rfl <| Zv (dz (v := F) rfl a.sl fh) <| Zw (.int .i64 0) rfl <| cT <| c9 ?_
 refine dy (σ := (Nat) × (Value)) [10, 37, 38, 39, 40, 41, 42, 43, 44, 45, 46, 47, 48, 49, 50, 51, 52, 53, 54, 55, 56, 57, 58, 59] (fun (k, v2) => [(37, .int .i64 (k : Int))]) (fun sg W => match sg with | (k, v2) => (At W bm _ 157) ∧ (At W bons _ 164) ∧ (At W bmays _ 164) ∧ (At W bi _ 3) ∧ (At W brest _ 49) ∧ (Below N w W) ∧ (dh ik 2 40 W N F _) ∧ (At W bout #[v2] 66) ∧ (dh ik 2 40 W N v2 (out ++ (L.take k).map (iA i 0))) ∧ (eP v2 F) ∧ (k ≤ L.length) ∧ (True)) (fun (k, v2) => L.length - k) ((0, v0)) ⟨rfl, trivial⟩ ⟨hm, hons, hmays, hbi, hrest, hB, a, hout, (by rw [List.take_zero, List.map_nil, List.append_nil]; exact hown), Q, (Nat.zero_le _), trivial⟩ ?_
 clear hm hons hmays hbi hrest hout hown hB Q a
 rintro ⟨k, v2⟩ aA aB ⟨hm, hons, hmays, hbi, hrest, hB, a, hout, hown, hap, hk, _⟩ aC ab
 refine Zr <| Zv (dM rfl rfl) <| cT <| cY fun aD ac => ZQ rfl (fun ad => ?_) fun ad => ?_
 refine c7 <| ac _ _ <| cY fun aE ae => c9 ?_
 have hck := hcm (L.getD k ⟨0, 0⟩) (dV (by omega))
 obtain ⟨hck1, hck2, _, _⟩ := hck
 have hle256 := fW h8
 have hck3 : (L.getD k ⟨0, 0⟩).v ≤ (L.getD k ⟨0, 0⟩).m := by rw [← hck2]; exact Nat.and_le_right
 refine Zr <| Zv (dF (v := F) rfl a.sl rfl fh Om Ol76_0) <| Zv (iy rfl dQ (dN.cell a.sl gt ⟨0, 0⟩ Om Ol76_0 0 rfl) (dN.cell a.sl gt ⟨0, 0⟩ Om Ol76_0 1 rfl)) <| Zy (dt jl rfl fun M aF I z d => ?_)
 have O : N ≤ M := I ▸ (Nat.le_trans hN0 (Below.size hB))
 have P := dh.neB (b := M) a (Nat.le_of_eq I.symm)
 have J := dh.neB (b := M) hown (Nat.le_of_eq I.symm)
 clear I
 replace hm := z.at hm
 replace hons := z.at hons
 replace hmays := z.at hmays
 replace hbi := z.at hbi
 replace hrest := z.at hrest
 replace hB := dH hB z hN0
 replace a := z.ow a
 replace hout := z.at hout
 replace hown := z.ow hown
 refine Zy (dg rfl rfl dQ rfl d rfl rfl fun aG A af => ?_)
 replace hm := At.grownAt hm d A Dd
 replace hons := At.grownAt hons d A Dd
 replace hmays := At.grownAt hmays d A Dd
 replace hbi := At.grownAt hbi d A Dd
 replace hrest := At.grownAt hrest d A Dd
 replace hB := dA hB A hN0 (fun j hj => by cases hj; exact O)
 replace a := dh.grownAtNe a P A
 replace hout := At.grownAt hout d A Dd
 replace hown := dh.grownAtNe hown J A
 replace d := af
 refine cT <| Zd ep fun ag p => ?_
 replace hm := p.at hm
 replace hons := p.at hons
 replace hmays := p.at hmays
 replace hbi := p.at hbi
 replace hrest := p.at hrest
 replace hB := dH hB p hN0
 replace a := p.ow a
 replace hout := p.at hout
 replace hown := p.ow hown
 replace d := p.at d
 have hS := ep.refl ag
 refine Tf 0 rfl rfl eU hS <| Tk 1 rfl (fun _ hq => dk (v := .int .u8 _) rfl eb (At.cell (hq.at d) rfl)) hS <| Tk 2 rfl (fun _ hq => dk (v := .int .i64 _) rfl du (At.cell (hq.at hbi) rfl)) hS <| Tk 3 rfl (fun _ _ => jU (m := 1) rfl rfl Om (by simp only [IntKind.bits]; omega) (by exact sW _ _ (by simp only [md]; omega))) hS <| Tk 4 rfl (fun _ _ => D3 (n := _) rfl rfl rfl (by show (L.getD k ⟨0, 0⟩).m < 256; omega) (by exact sW _ _ (by simp only [md]; omega))) hS <| Tf 5 rfl rfl eU hS <| To 6 rfl (eH (v := .int .u8 _) rfl rfl eb rfl d (by simp) fun aH B ah => ⟨.inr (by kernel_rfl), ?_⟩)
 replace hm := At.grownAt hm d B Dd
 replace hons := At.grownAt hons d B Dd
 replace hmays := At.grownAt hmays d B Dd
 replace hbi := At.grownAt hbi d B Dd
 replace hrest := At.grownAt hrest d B Dd
 replace hB := dA hB B hN0 (fun j hj => by cases hj; exact O)
 replace a := dh.grownAtNe a P B
 replace hout := At.grownAt hout d B Dd
 replace hown := dh.grownAtNe hown J B
 replace d := ah
 replace d : At _ _ #[_, _] _ := d
 refine Td <| Zd ep fun ai q => ?_
 replace hm := q.at hm
 replace hons := q.at hons
 replace hmays := q.at hmays
 replace hbi := q.at hbi
 replace hrest := q.at hrest
 replace hB := dH hB q hN0
 replace a := q.ow a
 replace hout := q.at hout
 replace hown := q.ow hown
 replace d := q.at d
 have hS := ep.refl ai
 refine Tf 0 rfl rfl gw hS <| Tk 1 rfl (fun _ hq => dk (v := .int .u8 _) rfl eb (At.cell (hq.at d) rfl)) hS <| Tw 2 (.int .i64 0) rfl rfl hS <| Tk 3 rfl (fun _ _ => jI (m := 0) rfl Tryz.underlying3 Tryz.underlying5 Dd) hS <| Tk 4 rfl (fun _ hq => dk (v := .int .i64 _) rfl du (At.cell (hq.at hbi) rfl)) hS <| Tk 5 rfl (fun _ _ => jU (m := 0) rfl rfl Om (by simp only [IntKind.bits]; omega) (by rw [Nat.zero_mul]; decide)) hS <| Tk 6 rfl (fun _ _ => D3 (n := _) rfl rfl rfl (by show (L.getD k ⟨0, 0⟩).v < 256; omega) (by rw [Nat.zero_mul]; decide)) hS <| Tf 7 rfl rfl gw hS <| To 8 rfl (eH (v := .int .u8 _) rfl rfl eb rfl d (by simp) fun aI C aj => ⟨.inr (by kernel_rfl), ?_⟩)
 replace hm := At.grownAt hm d C Dd
 replace hons := At.grownAt hons d C Dd
 replace hmays := At.grownAt hmays d C Dd
 replace hbi := At.grownAt hbi d C Dd
 replace hrest := At.grownAt hrest d C Dd
 replace hB := dA hB C hN0 (fun j hj => by cases hj; exact O)
 replace a := dh.grownAtNe a P C
 replace hout := At.grownAt hout d C Dd
 replace hown := dh.grownAtNe hown J C
 replace d := aj
 replace d : At _ _ #[_, _] _ := d
 refine Td <| cZ <| ZL v2 rfl sG hout rfl <| Zv (db rfl dQ rfl d) <| Zy (ff (u := .agg #[_, _]) rfl fh jp rfl Dd Dd fun K aJ H r ak => ?_)
 have aK : N ≤ K := H ▸ (Nat.le_trans hN0 (Below.size hB))
 have aL := dh.neB (b := K) a (Nat.le_of_eq H.symm)
 have aM := dh.neB (b := K) hown (Nat.le_of_eq H.symm)
 have aN := Zn H d.lt
 clear H
 replace hm := r.at hm
 replace hons := r.at hons
 replace hmays := r.at hmays
 replace hbi := r.at hbi
 replace hrest := r.at hrest
 replace hB := dH hB r hN0
 replace a := r.ow a
 replace hout := r.at hout
 replace hown := r.ow hown
 replace d := r.at d
 refine Zy (jD (v := v2) (v2 := .slice (some ⟨K, 0, none⟩) 1 1) rfl rfl fh jp Dd hown (fF ak rfl) rfl (by have := Below.size hB; omega) (by first | omega | (simp; omega) | (simp only [cV, cW, cX, da]; omega)) (by first | omega | (simp; omega) | (simp only [cV, cW, cX, da]; omega)) fun R aO D G al => ?_)
 have ao := eP.app hap al a
 replace G := dh.snoc (enc := ik) (x := ⟨_, _⟩) rfl rfl rfl rfl G
 replace hm := At.grownOw hm hown D Dd
 replace hons := At.grownOw hons hown D Dd
 replace hmays := At.grownOw hmays hown D Dd
 replace hbi := At.grownOw hbi hown D Dd
 replace hrest := At.grownOw hrest hown D Dd
 replace hB := dA hB D hN0 (fun j hj => (dh.lt hown j hj))
 replace a := dh.grownAp a hap D
 replace hout := At.grownOw hout hown D Dd
 replace d := At.grownOwNe d J D
 clear hown
 refine Zy (eH (v := R) rfl rfl sG (dN.one G.sl) hout (by simp) fun aP s ap => ?_)
 replace hm := At.grownAt hm hout s Dd
 replace hons := At.grownAt hons hout s Dd
 replace hmays := At.grownAt hmays hout s Dd
 replace hbi := At.grownAt hbi hout s Dd
 replace hrest := At.grownAt hrest hout s Dd
 replace hB := dA hB s hN0 (fun j hj => by cases hj; exact loo)
 replace a := dh.grownAt a hout s Dd
 replace d := At.grownAt d hout s Dd
 replace G := dh.grownAt G hout s Dd
 clear s hout
 replace hout := ap
 replace hout : At _ _ #[_] _ := hout
 refine cT <| ae _ _ <| cZ <| Zv (dm rfl rfl Om Om) <| Zi rfl <| cT ?_
 exact ab _ _ ((k + 1, R)) Za ⟨rfl, trivial⟩ ⟨hm, hons, hmays, hbi, hrest, hB, a, hout, (by rw [Cp Om, ← List.append_assoc]; exact G), ao, Om, trivial⟩ (by show L.length - (k + 1) < L.length - k; omega)
 refine dr ?_
 repeat (first | refine oV ?_ | refine nf ?_)
 refine nr ?_
 repeat (first | refine kq ?_ | refine jC ?_)
 refine HJ ?_
 have hkL : k = L.length := by omega
 rw [hkL, List.take_length] at hown
 exact ⟨hB, hm, hons, hmays, hbi, hrest, _, hout, hown⟩
theorem R3 (n f i on may N bm bons bmays bi brest bout rest : Nat) (v0 : Value) (out : List Cb) (w : World) (hN0 : N ≤ w.heap.size) (hih : ∀ (on may i : Nat) (w : World), n ≤ 8 → m8 n on may i → n + 1 - i ≤ f → f ≤ 9 → Fn Tryz.prog 113 #[.agg #[.int .i64 (n : Int), wv (fo n) 0, wv (fo n) 1, wv (fo n) 2, wv (fo n) 3], eT on, eT may, .int .i64 (i : Int)] w fun v w' => dh ik 2 40 w' w.heap.size v (eM n f on may i)) (h8 : n ≤ 8) (hg : m8 n on may i) (hi : i < n) (hf : n + 1 - (i + 1) ≤ f) (hf9 : f ≤ 8) (hm : At w bm #[.int .i64 (n : Int), wv (fo n) 0, wv (fo n) 1, wv (fo n) 2, wv (fo n) 3] 157) (hons : At w bons (mQ (dp on i false) (dp on i true)) 164) (hmays : At w bmays (mQ (dp may i false) (dp may i true)) 164) (hbi : At w bi #[.int .i64 (i : Int)] 3) (hrest : At w brest #[wv rest 0, wv rest 1, wv rest 2, wv rest 3] 49) (hout : At w bout #[v0] 66) (hown : dh ik 2 40 w N v0 out) (hlen : out.length ≤ 20000) (lor : N ≤ brest) (loo : N ≤ bout) :
    rl Tryz.prog 128 #[.int .i64 1, .pointer (some ⟨bm, 0, none⟩), .pointer (some ⟨bons, 0, none⟩), .pointer (some ⟨bmays, 0, none⟩), .pointer (some ⟨bi, 0, none⟩), .pointer (some ⟨brest, 0, none⟩), .pointer (some ⟨bout, 0, none⟩)] w fun v w' => Below N w w' ∧ At w' bm #[.int .i64 (n : Int), wv (fo n) 0, wv (fo n) 1, wv (fo n) 2, wv (fo n) 3] 157 ∧ At w' bons (mQ (dp on i false) (dp on i true)) 164 ∧ At w' bmays (mQ (dp may i false) (dp may i true)) 164 ∧ At w' bi #[.int .i64 (i : Int)] 3 ∧ At w' brest #[wv (rest ||| andNot (dp on i true) (k8 (eM n f (andNot (dp on i true) (dp may i false)) (dp may i true) (i + 1)) n (eM n f (andNot (dp on i true) (dp may i false)) (dp may i true) (i + 1)).length)) 0, wv (rest ||| andNot (dp on i true) (k8 (eM n f (andNot (dp on i true) (dp may i false)) (dp may i true) (i + 1)) n (eM n f (andNot (dp on i true) (dp may i false)) (dp may i true) (i + 1)).length)) 1, wv (rest ||| andNot (dp on i true) (k8 (eM n f (andNot (dp on i true) (dp may i false)) (dp may i true) (i + 1)) n (eM n f (andNot (dp on i true) (dp may i false)) (dp may i true) (i + 1)).length)) 2, wv (rest ||| andNot (dp on i true) (k8 (eM n f (andNot (dp on i true) (dp may i false)) (dp may i true) (i + 1)) n (eM n f (andNot (dp on i true) (dp may i false)) (dp may i true) (i + 1)).length)) 3] 49 ∧ ∃ v1, At w' bout #[v1] 66 ∧ dh ik 2 40 w' N v1 (out ++ (eM n f (andNot (dp on i true) (dp may i false)) (dp may i true) (i + 1)).map (iA i 1)) := by
 refine fc (n := 60) Tryz.func128 rfl rfl (Nat.le_of_ble_eq_true rfl) ?_
 have hB : Below N w w := Below.refl _ _
 have hi8 : i < 8 := by omega
 refine Zd ep fun W3 E => ?_
 replace hm := E.at hm
 replace hons := E.at hons
 replace hmays := E.at hmays
 replace hbi := E.at hbi
 replace hrest := E.at hrest
 replace hout := E.at hout
 replace hown := E.ow hown
 replace hB := dH hB E hN0
 have hS := ep.refl W3
 refine Tk 0 rfl (fun _ hq => db rfl pG rfl (hq.at hm)) hS <| Tw 1 (.int .i64 1) rfl rfl hS <| Tk 2 rfl (fun _ _ => fi rfl rfl gX Om Om) hS <| Tk 3 rfl (fun _ hq => fw rfl df (At.cell (hq.at hons) rfl) (At.cell (hq.at hons) rfl) (At.cell (hq.at hons) rfl) (At.cell (hq.at hons) rfl)) hS <| Tw 4 (.int .i64 1) rfl rfl hS <| Tk 5 rfl (fun _ _ => lf rfl rfl Om Om) hS <| Tk 6 rfl (fun _ _ => fi rfl rfl gX Om Om) hS <| Tk 7 rfl (fun _ hq => fw rfl df (At.cell (hq.at hmays) rfl) (At.cell (hq.at hmays) rfl) (At.cell (hq.at hmays) rfl) (At.cell (hq.at hmays) rfl)) hS <| Tw 9 (.int .i64 1) rfl rfl hS <| Tk 10 rfl (fun _ _ => fi rfl rfl gX Om Om) hS <| Tk 11 rfl (fun _ hq => fw rfl df (At.cell (hq.at hmays) rfl) (At.cell (hq.at hmays) rfl) (At.cell (hq.at hmays) rfl) (At.cell (hq.at hmays) rfl)) hS <| Tk 12 rfl (fun _ hq => dk (v := .int .i64 _) rfl du (At.cell (hq.at hbi) rfl)) hS <| Tk 13 rfl (fun _ _ => dm rfl rfl Om Om) hS <| To 8 rfl (TC (vs := [.agg #[_, _, _, _], .agg #[_, _, _, _]]) vO (mG _ _ _) rfl fun aq W5 l S => ⟨.inl (hS.trans l), ?_⟩)
 replace hm := l.at hm
 replace hons := l.at hons
 replace hmays := l.at hmays
 replace hbi := l.at hbi
 replace hrest := l.at hrest
 replace hout := l.at hout
 replace hown := l.ow hown
 replace hB := dH hB l hN0
 replace hS := hS.trans l
 obtain rfl := S
 refine To 14 rfl (TC (vs := [.agg #[_, _, _, _, _], .agg #[_, _, _, _], .agg #[_, _, _, _], .int .i64 _]) vk (hih _ _ (i + 1) _ h8 (hg.side h8 hi true) hf (Nat.le_trans hf9 Dd)) rfl fun F W9 o a => ⟨.inl (hS.trans o), ?_⟩)
 have T := dh.lt2 hown
 have U := (Nat.le_trans hN0 (Below.size hB))
 replace hm := o.at hm
 replace hons := o.at hons
 replace hmays := o.at hmays
 replace hbi := o.at hbi
 replace hrest := o.at hrest
 replace hout := o.at hout
 replace hown := o.ow hown
 replace hB := dH hB o hN0
 replace hS := hS.trans o
 have Q := eP.new T a
 replace a := dh.mono a U
 have hcm : jn n (dp may i true) (i + 1) (eM n f (andNot (dp on i true) (dp may i false)) (dp may i true) (i + 1)) := (kH h8 f _ _ _ (hg.side h8 hi true) hf).1
 have hcl := iW (n := n) f (andNot (dp on i true) (dp may i false)) (dp may i true) (i + 1)
 have h3f : 3 ^ f ≤ 3 ^ 8 := Nat.pow_le_pow_right (by decide) hf9
 try simp only [Bool.not_false, Bool.not_true] at a
 generalize hL : eM n f (andNot (dp on i true) (dp may i false)) (dp may i true) (i + 1) = L at *
 refine Tw 15 F rfl rfl hS <| Td <| Zd ep fun V t => ?_
 replace hm := t.at hm
 replace hons := t.at hons
 replace hmays := t.at hmays
 replace hbi := t.at hbi
 replace hrest := t.at hrest
 replace hout := t.at hout
 replace hown := t.ow hown
 replace hB := dH hB t hN0
 replace a := t.ow a
 have hS := ep.refl V
 refine Tk 0 rfl (fun _ hq => db rfl df rfl (hq.at hrest)) hS <| Tw 1 (.int .i64 1) rfl rfl hS <| Tk 2 rfl (fun _ _ => fi rfl rfl gX Om Om) hS <| Tk 3 rfl (fun _ hq => fw rfl df (At.cell (hq.at hons) rfl) (At.cell (hq.at hons) rfl) (At.cell (hq.at hons) rfl) (At.cell (hq.at hons) rfl)) hS <| Tk 4 rfl (fun _ hq => db rfl pG rfl (hq.at hm)) hS <| Tw 5 F rfl rfl hS <| To 6 rfl (TC (vs := [.agg #[_, _, _, _, _], F]) E8 (ma n _ L _ h8 a.sl (fun c hc => ⟨(hcm c hc).1, (hcm c hc).2.1⟩) Om) rfl fun ar au e X => ⟨.inl (hS.trans e), ?_⟩)
 replace hm := e.at hm
 replace hons := e.at hons
 replace hmays := e.at hmays
 replace hbi := e.at hbi
 replace hrest := e.at hrest
 replace hout := e.at hout
 replace hown := e.ow hown
 replace hB := dH hB e hN0
 replace a := e.ow a
 replace hS := hS.trans e
 obtain rfl := X
 refine To 7 rfl (TC (vs := [.agg #[_, _, _, _], .agg #[_, _, _, _]]) vO (mG _ _ _) rfl fun av aw g Y => ⟨.inl (hS.trans g), ?_⟩)
 replace hm := g.at hm
 replace hons := g.at hons
 replace hmays := g.at hmays
 replace hbi := g.at hbi
 replace hrest := g.at hrest
 replace hout := g.at hout
 replace hown := g.ow hown
 replace hB := dH hB g hN0
 replace a := g.ow a
 replace hS := hS.trans g
 obtain rfl := Y
 refine To 8 rfl (TC (vs := [.agg #[_, _, _, _], .agg #[_, _, _, _]]) sv (sd _ _ _) rfl fun ax ay h Z => ⟨.inl (hS.trans h), ?_⟩)
 replace hm := h.at hm
 replace hons := h.at hons
 replace hmays := h.at hmays
 replace hbi := h.at hbi
 replace hrest := h.at hrest
 replace hout := h.at hout
 replace hown := h.ow hown
 replace hB := dH hB h hN0
 replace a := h.ow a
 replace hS := hS.trans h
 obtain rfl := Z
 refine To 9 rfl (dg rfl rfl df rfl hrest rfl rfl fun az y aa => ⟨.inr (by kernel_rfl), ?_⟩)
 replace hm := At.grownAt hm hrest y Dd
 replace hons := At.grownAt hons hrest y Dd
 replace hmays := At.grownAt hmays hrest y Dd
 replace hbi := At.grownAt hbi hrest y Dd
 replace hout := At.grownAt hout hrest y Dd
 replace hown := dh.grownAt hown hrest y Dd
 replace hB := dA hB y hN0 (fun j hj => by cases hj; exact lor)
 replace a := dh.grownAt a hrest y Dd
 clear y hrest
 replace hrest := aa
 refine Td <| Zr <| Zw F rfl <| Zv (dz (v := F) rfl a.sl fh) <| Zw (.int .i64 0) rfl <| cT <| c9 ?_
 refine dy (σ := (Nat) × (Value)) [10, 37, 38, 39, 40, 41, 42, 43, 44, 45, 46, 47, 48, 49, 50, 51, 52, 53, 54, 55, 56, 57, 58, 59] (fun (k, v2) => [(37, .int .i64 (k : Int))]) (fun sg W => match sg with | (k, v2) => (At W bm _ 157) ∧ (At W bons _ 164) ∧ (At W bmays _ 164) ∧ (At W bi _ 3) ∧ (At W brest _ 49) ∧ (Below N w W) ∧ (dh ik 2 40 W N F _) ∧ (At W bout #[v2] 66) ∧ (dh ik 2 40 W N v2 (out ++ (L.take k).map (iA i 1))) ∧ (eP v2 F) ∧ (k ≤ L.length) ∧ (True)) (fun (k, v2) => L.length - k) ((0, v0)) ⟨rfl, trivial⟩ ⟨hm, hons, hmays, hbi, hrest, hB, a, hout, (by rw [List.take_zero, List.map_nil, List.append_nil]; exact hown), Q, (Nat.zero_le _), trivial⟩ ?_
 clear hm hons hmays hbi hrest hout hown hB Q a
 rintro ⟨k, v2⟩ aA aB ⟨hm, hons, hmays, hbi, hrest, hB, a, hout, hown, hap, hk, _⟩ aC ab
 refine Zr <| Zv (dM rfl rfl) <| cT <| cY fun aD ac => ZQ rfl (fun ad => ?_) fun ad => ?_
 refine c7 <| ac _ _ <| cY fun aE ae => c9 ?_
 have hck := hcm (L.getD k ⟨0, 0⟩) (dV (by omega))
 obtain ⟨hck1, hck2, _, _⟩ := hck
 have hle256 := fW h8
 have hck3 : (L.getD k ⟨0, 0⟩).v ≤ (L.getD k ⟨0, 0⟩).m := by rw [← hck2]; exact Nat.and_le_right
 refine Zr <| Zv (dF (v := F) rfl a.sl rfl fh Om Ol76_0) <| Zv (iy rfl dQ (dN.cell a.sl gt ⟨0, 0⟩ Om Ol76_0 0 rfl) (dN.cell a.sl gt ⟨0, 0⟩ Om Ol76_0 1 rfl)) <| Zy (dt jl rfl fun M aF I z d => ?_)
 have O : N ≤ M := I ▸ (Nat.le_trans hN0 (Below.size hB))
 have P := dh.neB (b := M) a (Nat.le_of_eq I.symm)
 have J := dh.neB (b := M) hown (Nat.le_of_eq I.symm)
 clear I
 replace hm := z.at hm
 replace hons := z.at hons
 replace hmays := z.at hmays
 replace hbi := z.at hbi
 replace hrest := z.at hrest
 replace hB := dH hB z hN0
 replace a := z.ow a
 replace hout := z.at hout
 replace hown := z.ow hown
 refine Zy (dg rfl rfl dQ rfl d rfl rfl fun aG A af => ?_)
 replace hm := At.grownAt hm d A Dd
 replace hons := At.grownAt hons d A Dd
 replace hmays := At.grownAt hmays d A Dd
 replace hbi := At.grownAt hbi d A Dd
 replace hrest := At.grownAt hrest d A Dd
 replace hB := dA hB A hN0 (fun j hj => by cases hj; exact O)
 replace a := dh.grownAtNe a P A
 replace hout := At.grownAt hout d A Dd
 replace hown := dh.grownAtNe hown J A
 replace d := af
 refine cT <| Zd ep fun ag p => ?_
 replace hm := p.at hm
 replace hons := p.at hons
 replace hmays := p.at hmays
 replace hbi := p.at hbi
 replace hrest := p.at hrest
 replace hB := dH hB p hN0
 replace a := p.ow a
 replace hout := p.at hout
 replace hown := p.ow hown
 replace d := p.at d
 have hS := ep.refl ag
 refine Tf 0 rfl rfl eU hS <| Tk 1 rfl (fun _ hq => dk (v := .int .u8 _) rfl eb (At.cell (hq.at d) rfl)) hS <| Tk 2 rfl (fun _ hq => dk (v := .int .i64 _) rfl du (At.cell (hq.at hbi) rfl)) hS <| Tk 3 rfl (fun _ _ => jU (m := 1) rfl rfl Om (by simp only [IntKind.bits]; omega) (by exact sW _ _ (by simp only [md]; omega))) hS <| Tk 4 rfl (fun _ _ => D3 (n := _) rfl rfl rfl (by show (L.getD k ⟨0, 0⟩).m < 256; omega) (by exact sW _ _ (by simp only [md]; omega))) hS <| Tf 5 rfl rfl eU hS <| To 6 rfl (eH (v := .int .u8 _) rfl rfl eb rfl d (by simp) fun aH B ah => ⟨.inr (by kernel_rfl), ?_⟩)
 replace hm := At.grownAt hm d B Dd
 replace hons := At.grownAt hons d B Dd
 replace hmays := At.grownAt hmays d B Dd
 replace hbi := At.grownAt hbi d B Dd
 replace hrest := At.grownAt hrest d B Dd
 replace hB := dA hB B hN0 (fun j hj => by cases hj; exact O)
 replace a := dh.grownAtNe a P B
 replace hout := At.grownAt hout d B Dd
 replace hown := dh.grownAtNe hown J B
 replace d := ah
 replace d : At _ _ #[_, _] _ := d
 refine Td <| Zd ep fun ai q => ?_
 replace hm := q.at hm
 replace hons := q.at hons
 replace hmays := q.at hmays
 replace hbi := q.at hbi
 replace hrest := q.at hrest
 replace hB := dH hB q hN0
 replace a := q.ow a
 replace hout := q.at hout
 replace hown := q.ow hown
 replace d := q.at d
 have hS := ep.refl ai
 refine Tf 0 rfl rfl gw hS <| Tk 1 rfl (fun _ hq => dk (v := .int .u8 _) rfl eb (At.cell (hq.at d) rfl)) hS <| Tw 2 (.int .i64 1) rfl rfl hS <| Tk 3 rfl (fun _ _ => jI (m := 1) rfl Tryz.underlying3 Tryz.underlying5 Dd) hS <| Tk 4 rfl (fun _ hq => dk (v := .int .i64 _) rfl du (At.cell (hq.at hbi) rfl)) hS <| Tk 5 rfl (fun _ _ => jU (m := 1) rfl rfl Om (by simp only [IntKind.bits]; omega) (by exact sW _ _ (by simp only [md]; omega))) hS <| Tk 6 rfl (fun _ _ => D3 (n := _) rfl rfl rfl (by show (L.getD k ⟨0, 0⟩).v < 256; omega) (by exact sW _ _ (by simp only [md]; omega))) hS <| Tf 7 rfl rfl gw hS <| To 8 rfl (eH (v := .int .u8 _) rfl rfl eb rfl d (by simp) fun aI C aj => ⟨.inr (by kernel_rfl), ?_⟩)
 replace hm := At.grownAt hm d C Dd
 replace hons := At.grownAt hons d C Dd
 replace hmays := At.grownAt hmays d C Dd
 replace hbi := At.grownAt hbi d C Dd
 replace hrest := At.grownAt hrest d C Dd
 replace hB := dA hB C hN0 (fun j hj => by cases hj; exact O)
 replace a := dh.grownAtNe a P C
 replace hout := At.grownAt hout d C Dd
 replace hown := dh.grownAtNe hown J C
 replace d := aj
 replace d : At _ _ #[_, _] _ := d
 refine Td <| cZ <| ZL v2 rfl sG hout rfl <| Zv (db rfl dQ rfl d) <| Zy (ff (u := .agg #[_, _]) rfl fh jp rfl Dd Dd fun K aJ H r ak => ?_)
 have aK : N ≤ K := H ▸ (Nat.le_trans hN0 (Below.size hB))
 have aL := dh.neB (b := K) a (Nat.le_of_eq H.symm)
 have aM := dh.neB (b := K) hown (Nat.le_of_eq H.symm)
 have aN := Zn H d.lt
 clear H
 replace hm := r.at hm
 replace hons := r.at hons
 replace hmays := r.at hmays
 replace hbi := r.at hbi
 replace hrest := r.at hrest
 replace hB := dH hB r hN0
 replace a := r.ow a
 replace hout := r.at hout
 replace hown := r.ow hown
 replace d := r.at d
 refine Zy (jD (v := v2) (v2 := .slice (some ⟨K, 0, none⟩) 1 1) rfl rfl fh jp Dd hown (fF ak rfl) rfl (by have := Below.size hB; omega) (by first | omega | (simp; omega) | (simp only [cV, cW, cX, da]; omega)) (by first | omega | (simp; omega) | (simp only [cV, cW, cX, da]; omega)) fun R aO D G al => ?_)
 have ao := eP.app hap al a
 replace G := dh.snoc (enc := ik) (x := ⟨_, _⟩) rfl rfl rfl rfl G
 replace hm := At.grownOw hm hown D Dd
 replace hons := At.grownOw hons hown D Dd
 replace hmays := At.grownOw hmays hown D Dd
 replace hbi := At.grownOw hbi hown D Dd
 replace hrest := At.grownOw hrest hown D Dd
 replace hB := dA hB D hN0 (fun j hj => (dh.lt hown j hj))
 replace a := dh.grownAp a hap D
 replace hout := At.grownOw hout hown D Dd
 replace d := At.grownOwNe d J D
 clear hown
 refine Zy (eH (v := R) rfl rfl sG (dN.one G.sl) hout (by simp) fun aP s ap => ?_)
 replace hm := At.grownAt hm hout s Dd
 replace hons := At.grownAt hons hout s Dd
 replace hmays := At.grownAt hmays hout s Dd
 replace hbi := At.grownAt hbi hout s Dd
 replace hrest := At.grownAt hrest hout s Dd
 replace hB := dA hB s hN0 (fun j hj => by cases hj; exact loo)
 replace a := dh.grownAt a hout s Dd
 replace d := At.grownAt d hout s Dd
 replace G := dh.grownAt G hout s Dd
 clear s hout
 replace hout := ap
 replace hout : At _ _ #[_] _ := hout
 refine cT <| ae _ _ <| cZ <| Zv (dm rfl rfl Om Om) <| Zi rfl <| cT ?_
 exact ab _ _ ((k + 1, R)) Za ⟨rfl, trivial⟩ ⟨hm, hons, hmays, hbi, hrest, hB, a, hout, (by rw [Cp Om, ← List.append_assoc]; exact G), ao, Om, trivial⟩ (by show L.length - (k + 1) < L.length - k; omega)
 refine dr ?_
 repeat (first | refine oV ?_ | refine nf ?_)
 refine nr ?_
 repeat (first | refine kq ?_ | refine jC ?_)
 refine HJ ?_
 have hkL : k = L.length := by omega
 rw [hkL, List.take_length] at hown
 exact ⟨hB, hm, hons, hmays, hbi, hrest, _, hout, hown⟩
theorem J5 (n f i on may : Nat) (w : World) (hih : ∀ (on may i : Nat) (w : World), n ≤ 8 → m8 n on may i → n + 1 - i ≤ f → f ≤ 9 → Fn Tryz.prog 113 #[.agg #[.int .i64 (n : Int), wv (fo n) 0, wv (fo n) 1, wv (fo n) 2, wv (fo n) 3], eT on, eT may, .int .i64 (i : Int)] w fun v w' => dh ik 2 40 w' w.heap.size v (eM n f on may i)) (h8 : n ≤ 8) (hg : m8 n on may i) (hf : n + 1 - i ≤ f + 1) (hf9 : f + 1 ≤ 9) :
    Fn Tryz.prog 113 #[.agg #[.int .i64 (n : Int), wv (fo n) 0, wv (fo n) 1, wv (fo n) 2, wv (fo n) 3], eT on, eT may, .int .i64 (i : Int)] w fun v w' => dh ik 2 40 w' w.heap.size v (eM n (f + 1) on may i) := by
 refine dq (n := 61) Tryz.func113 rfl rfl (Nat.le_of_ble_eq_true rfl) ?_
 have hB : Below w.heap.size w w := Below.refl _ _
 refine Zr <| Zy (dY (c := #[_, _, _, _, _]) rfl rfl fun A W3 ab aq e => ?_)
 have aT := ZO ab hB
 clear ab
 replace hB := Ze hB aq
 refine Zy (dY (c := #[_, _, _, _]) rfl rfl fun ar W6 ac ad l => ?_)
 have aU := ZO ac hB
 clear ac
 replace hB := Ze hB ad
 replace e := ad.at e
 refine Zy (dY (c := #[_, _, _, _]) rfl rfl fun au W9 V X m => ?_)
 have aV := ZO V hB
 have aW := Zn V l.lt
 clear V
 replace hB := Ze hB X
 replace e := X.at e
 replace l := X.at l
 refine Zy (dY (c := #[_]) rfl rfl fun B aX ae R j => ?_)
 have aY := ZO ae hB
 clear ae
 replace hB := Ze hB R
 replace e := R.at e
 replace l := R.at l
 replace m := R.at m
 refine Zw (.slice none 0 0) rfl <| cT <| cY fun aZ av => c9 <| Zr <| Zv (db rfl df rfl l) <| Zv (v := eT 0) (gI ) <| Zv (su rfl rfl) <| Zb rfl <| cT <| ZQ rfl (fun S => ?_) fun S => ?_
 refine Zr <| Zw (.slice none 0 0) rfl <| cT <| Zt <| dC (v := .slice none 0 0) rfl ⟨hB, ?_⟩
 rw [eM, if_pos (uR S)]
 exact dh.nil
 refine Zr <| Zv (db rfl df rfl m) <| Zf rfl De <| Zv (fw rfl df (At.cell e rfl) (At.cell e rfl) (At.cell e rfl) (At.cell e rfl)) <| Zv (su rfl rfl) <| Zb rfl <| cT <| ZQ rfl (fun Y => ?_) fun Y => ?_
 refine Zr <| Zv (ut ) <| Zy (ff (u := .agg #[_, _]) rfl fh jp rfl Dd Dd fun af a0 ag P aw => ?_)
 have ax := ZO ag hB
 clear ag
 replace hB := Ze hB P
 replace e := P.at e
 replace l := P.at l
 replace m := P.at m
 replace j := P.at j
 refine Zw (.slice (some ⟨af, 0, none⟩) 1 1) rfl <| cT <| Zt <| dC (v := .slice (some ⟨af, 0, none⟩) 1 1) rfl ⟨hB, ?_⟩
 rw [eM, if_neg (fun h => S (tw h)), if_pos (uR Y)]
 exact iL (enc := ik) (a := ⟨0, 0⟩) aw rfl rfl ax
 refine c7 <| av _ _ ?_
 have h0 : ¬ xE on 0 = true := fun h => S (tw h)
 have h1 : ¬ xE may (fo n) = true := fun h => Y (tw h)
 have hi : i < n := LR h8 hg h0 h1
 have hf1 : n + 1 - (i + 1) ≤ f := by omega
 have hi8 : i < 8 := by omega
 refine Zr <| Zy (dt vi rfl fun o a1 ah Q g => ?_)
 have ay := ZO ah hB
 clear ah
 replace hB := Ze hB Q
 replace e := Q.at e
 replace l := Q.at l
 replace m := Q.at m
 replace j := Q.at j
 refine Zy (dt vi rfl fun C a2 Z N d => ?_)
 have az := ZO Z hB
 have ai := Zn Z g.lt
 clear Z
 replace hB := Ze hB N
 replace e := N.at e
 replace l := N.at l
 replace m := N.at m
 replace j := N.at j
 replace g := N.at g
 refine cT <| cY fun a3 aA => ?_
 replace g := t5 (s := on) (i := i) g
 replace d := t5 (s := may) (i := i) d
 refine Zr <| Zw (.int .i64 0) rfl <| cT <| c9 ?_
 refine dy (σ := (Nat)) [11, 26, 27, 28, 29, 30, 31, 32, 33, 34, 35, 36, 37, 38, 39, 40, 41, 42, 43] (fun k => [(26, .int .i64 (k : Int))]) (fun k W => (Below w.heap.size w W) ∧ (At W A _ 157) ∧ (At W ar _ 49) ∧ (At W au _ 49) ∧ (At W B _ 3) ∧ (At W o (nL on i k) 164) ∧ (At W C (nL may i k) 164) ∧ (k ≤ 2) ∧ (True)) (fun k => 2 - k) (0) ⟨rfl, trivial⟩ ⟨hB, e, l, m, j, g, d, (Nat.zero_le _), trivial⟩ ?_
 clear hB e l m j g d
 rintro k a4 a5 ⟨hB, e, l, m, j, g, d, hk, _⟩ a6 aB
 refine Zr <| Zv (dM rfl rfl) <| cT <| cY fun a7 aC => ZQ rfl (fun aD => ?_) fun aD => ?_
 refine c7 <| aC _ _ <| cY fun a8 aE => c9 <| Zr <| Zi rfl <| Zi rfl <| cT ?_
 refine gD (fun a b => a.grownBy b (some o)) iC (fun aF L => ?_)
 replace hB := Ze hB L
 replace e := L.at e
 replace l := L.at l
 replace m := L.at m
 replace j := L.at j
 replace g := L.at g
 replace d := L.at d
 have T := g
 have hS := World.grownBy.refl aF (some o)
 refine Ti 0 rfl rfl hS <| Ti 1 rfl rfl hS <| Tk 2 rfl (fun _ hq => db rfl df rfl (At.grownAt l T hq Dd)) hS <| Tk 3 rfl (fun _ hq => dk (v := .int .i64 _) rfl du (At.cell (At.grownAt j T hq Dd) rfl)) hS <| Ti 4 rfl rfl hS <| Tk 5 rfl (fun _ _ => dS rfl rfl) hS <| Tk 7 rfl (fun _ hq => db rfl df rfl (At.grownAt m T hq Dd)) hS <| Tk 8 rfl (fun _ hq => dk (v := .int .i64 _) rfl du (At.cell (At.grownAt j T hq Dd) rfl)) hS <| Ti 9 rfl rfl hS <| Tk 10 rfl (fun _ _ => dS rfl rfl) hS <| To 6 rfl (TC (vs := [.agg #[_, _, _, _], .int .i64 _, .bool _]) FL (ud _ _ _ _) rfl fun a9 ba D aG => ⟨.inl (dE hS (ep.grown D (some o))), ?_⟩)
 replace hB := Ze hB D
 replace e := D.at e
 replace l := D.at l
 replace m := D.at m
 replace j := D.at j
 replace g := D.at g
 replace d := D.at d
 replace hS := dE hS (ep.grown D (some o))
 obtain rfl := aG
 rw [if_pos (show 0 ≤ (i : Int) ∧ (i : Int) < 8 by omega)]
 simp only [Int.toNat_natCast]
 refine Tk 12 rfl (fun _ _ => fi rfl rfl gX Om Om) hS <| To 11 rfl (TC (vs := [.agg #[_, _, _, _], .int .i64 _, .bool _]) FL (ud _ _ _ _) rfl fun bb bc E aH => ⟨.inl (dE hS (ep.grown E (some o))), ?_⟩)
 replace hB := Ze hB E
 replace e := E.at e
 replace l := E.at l
 replace m := E.at m
 replace j := E.at j
 replace g := E.at g
 replace d := E.at d
 replace hS := dE hS (ep.grown E (some o))
 obtain rfl := aH
 rw [if_pos (show 0 ≤ (i : Int) ∧ (i : Int) < 8 by omega)]
 simp only [Int.toNat_natCast]
 refine To 13 rfl (wR rfl rfl df rfl g (by rw [qr]; omega) rfl fun bd G aI => ⟨.inl (dE hS G), ?_⟩)
 replace hS := dE hS G
 replace hB := Zg hB G ay
 replace e := At.grownAt e g G Dd
 replace l := At.grownAt l g G Dd
 replace m := At.grownAt m g G Dd
 replace j := At.grownAt j g G Dd
 replace d := At.grownNe d (Ne.symm ai) G
 replace g := aI
 try simp only [Int.toNat_natCast] at g
 rw [rP (by omega)] at g
 refine Tk 14 rfl (fun _ _ => fi rfl rfl gX Om Om) hS <| To 15 rfl (wR rfl rfl df rfl d (by rw [qr]; omega) rfl fun bf O aJ => ⟨.inr (by kernel_rfl), ?_⟩)
 replace hB := Zg hB O az
 replace e := At.grownAt e d O Dd
 replace l := At.grownAt l d O Dd
 replace m := At.grownAt m d O Dd
 replace j := At.grownAt j d O Dd
 replace g := At.grownNe g ai O
 replace d := aJ
 try simp only [Int.toNat_natCast] at d
 rw [rP (by omega)] at d
 refine Td <| aE _ _ <| cZ <| Zv (dm rfl rfl Om Om) <| Zi rfl <| cT ?_
 exact aB _ _ (k + 1) Za ⟨rfl, trivial⟩ ⟨hB, e, l, m, j, (by exact g), (by exact d), Om, trivial⟩ Zo
 refine dr <| aA _ _ ?_
 obtain rfl : k = 2 := by omega
 replace g : At _ _ (mQ (dp on i false) (dp on i true)) _ := g
 replace d : At _ _ (mQ (dp may i false) (dp may i true)) _ := d
 refine Zr <| Zy (dt N5 rfl fun H bg aj M p => ?_)
 have ak := ZO aj hB
 clear aj
 replace hB := Ze hB M
 replace e := M.at e
 replace l := M.at l
 replace m := M.at m
 replace j := M.at j
 replace g := M.at g
 replace d := M.at d
 refine cT <| Zr <| Zy (dt eR rfl fun F aK U I r => ?_)
 have al := ZO U hB
 have bh := Zn U l.lt
 have bi := Zn U m.lt
 clear U
 replace hB := Ze hB I
 replace e := I.at e
 replace l := I.at l
 replace m := I.at m
 replace j := I.at j
 replace g := I.at g
 replace d := I.at d
 replace p := I.at p
 replace r : At aK F #[wv 0 0, wv 0 1, wv 0 2, wv 0 3] 49 := r
 refine cT <| Zr <| Zv (ia (vs := #[.pointer (some ⟨A, 0, none⟩), .pointer (some ⟨o, 0, none⟩), .pointer (some ⟨C, 0, none⟩), .pointer (some ⟨B, 0, none⟩), .pointer (some ⟨F, 0, none⟩), .pointer (some ⟨H, 0, none⟩)]) (by simp only [List.map_toArray, List.map_cons, List.map_nil]; rfl)) <| Zw (.func (.func 128) #[] #[.pointer (some ⟨A, 0, none⟩), .pointer (some ⟨o, 0, none⟩), .pointer (some ⟨C, 0, none⟩), .pointer (some ⟨B, 0, none⟩), .pointer (some ⟨F, 0, none⟩), .pointer (some ⟨H, 0, none⟩)]) rfl <| cT ?_
 have hca := (kH h8 f _ _ _ (hg.side h8 hi false) hf1)
 have hcb := (kH h8 f _ _ _ (hg.side h8 hi true) hf1)
 have hgr := hg.rest h8 hi hca.1 hcb.1 hca.2 hcb.2
 have hla := iW (n := n) f (andNot (dp on i false) (dp may i true)) (dp may i false) (i + 1)
 have hlb := iW (n := n) f (andNot (dp on i true) (dp may i false)) (dp may i true) (i + 1)
 have h3f : 3 ^ f ≤ 3 ^ 8 := Nat.pow_le_pow_right (by decide) (by omega)
 refine Zr <| Zw (.func (.func 128) #[] #[.pointer (some ⟨A, 0, none⟩), .pointer (some ⟨o, 0, none⟩), .pointer (some ⟨C, 0, none⟩), .pointer (some ⟨B, 0, none⟩), .pointer (some ⟨F, 0, none⟩), .pointer (some ⟨H, 0, none⟩)]) rfl ?_
 refine mW (dd := some 46) rfl rfl rfl (kh (q := 128) (first := #[]) (cap := #[.pointer (some ⟨A, 0, none⟩), .pointer (some ⟨o, 0, none⟩), .pointer (some ⟨C, 0, none⟩), .pointer (some ⟨B, 0, none⟩), .pointer (some ⟨F, 0, none⟩), .pointer (some ⟨H, 0, none⟩)]) (vs := #[.int .i64 0, .pointer (some ⟨A, 0, none⟩), .pointer (some ⟨o, 0, none⟩), .pointer (some ⟨C, 0, none⟩), .pointer (some ⟨B, 0, none⟩), .pointer (some ⟨F, 0, none⟩), .pointer (some ⟨H, 0, none⟩)]) rfl FX (by simp only [List.map_toArray, List.map_cons, List.map_nil, List.append_toArray, List.nil_append, List.cons_append]; rfl)) (R4 n f i on may w.heap.size _ _ _ _ _ _ 0 _ [] _ (Below.size hB) hih h8 hg hi hf1 Om e g d j r p dh.nil (by simp) al ak) (fun bj bk aL => ?_)
 obtain ⟨hBt, e, g, d, j, r, vt0, p, hot0⟩ := aL
 replace hB := Below.trans hB hBt
 clear hBt
 refine cT <| Zr <| Zw (.func (.func 128) #[] #[.pointer (some ⟨A, 0, none⟩), .pointer (some ⟨o, 0, none⟩), .pointer (some ⟨C, 0, none⟩), .pointer (some ⟨B, 0, none⟩), .pointer (some ⟨F, 0, none⟩), .pointer (some ⟨H, 0, none⟩)]) rfl ?_
 refine mW (dd := some 48) rfl rfl rfl (kh (q := 128) (first := #[]) (cap := #[.pointer (some ⟨A, 0, none⟩), .pointer (some ⟨o, 0, none⟩), .pointer (some ⟨C, 0, none⟩), .pointer (some ⟨B, 0, none⟩), .pointer (some ⟨F, 0, none⟩), .pointer (some ⟨H, 0, none⟩)]) (vs := #[.int .i64 1, .pointer (some ⟨A, 0, none⟩), .pointer (some ⟨o, 0, none⟩), .pointer (some ⟨C, 0, none⟩), .pointer (some ⟨B, 0, none⟩), .pointer (some ⟨F, 0, none⟩), .pointer (some ⟨H, 0, none⟩)]) rfl FX (by simp only [List.map_toArray, List.map_cons, List.map_nil, List.append_toArray, List.nil_append, List.cons_append]; rfl)) (R3 n f i on may w.heap.size _ _ _ _ _ _ _ _ _ _ (Below.size hB) hih h8 hg hi hf1 Om e g d j r p hot0 (by simp; omega) al ak) (fun bl bm aM => ?_)
 obtain ⟨hBt, e, g, d, j, r, vt1, p, hot1⟩ := aM
 replace hB := Below.trans hB hBt
 clear hBt hot0
 refine cT <| Zd (fun a b => a.grownBy b vt1.ownBlock) fun aN J => ?_
 replace hB := Ze hB J
 replace e := J.at e
 replace j := J.at j
 replace g := J.at g
 replace d := J.at d
 replace p := J.at p
 replace r := J.at r
 replace hot1 := J.ow hot1
 have t := hot1
 have hS := World.grownBy.refl aN vt1.ownBlock
 refine Tk 0 rfl (fun _ hq => dk (v := vt1) rfl sG (At.cell (At.grownOw p t hq Dd) rfl)) hS <| Tk 1 rfl (fun _ hq => db rfl pG rfl (At.grownOw e t hq Dd)) hS <| Tk 2 rfl (fun _ hq => db rfl df rfl (At.grownOw r t hq Dd)) hS <| Tk 3 rfl (fun _ _ => fi rfl rfl gX Om Om) hS <| Tk 4 rfl (fun _ hq => fw rfl df (At.cell (At.grownOw d t hq Dd) rfl) (At.cell (At.grownOw d t hq Dd) rfl) (At.cell (At.grownOw d t hq Dd) rfl) (At.cell (At.grownOw d t hq Dd) rfl)) hS <| Tk 5 rfl (fun _ _ => fi rfl rfl gX Om Om) hS <| Tk 6 rfl (fun _ hq => fw rfl df (At.cell (At.grownOw d t hq Dd) rfl) (At.cell (At.grownOw d t hq Dd) rfl) (At.cell (At.grownOw d t hq Dd) rfl) (At.cell (At.grownOw d t hq Dd) rfl)) hS <| Tk 8 rfl (fun _ hq => dk (v := .int .i64 _) rfl du (At.cell (At.grownOw j t hq Dd) rfl)) hS <| Tk 9 rfl (fun _ _ => dm rfl rfl Om Om) hS <| To 7 rfl (TC (vs := [.agg #[_, _, _, _], .agg #[_, _, _, _]]) tN (qU _ _ _) rfl fun bn bo x aO => ⟨.inl (dE hS (ep.grown x vt1.ownBlock)), ?_⟩)
 replace hB := Ze hB x
 replace e := x.at e
 replace j := x.at j
 replace g := x.at g
 replace d := x.at d
 replace p := x.at p
 replace r := x.at r
 replace hot1 := x.ow hot1
 replace hS := dE hS (ep.grown x vt1.ownBlock)
 obtain rfl := aO
 refine To 10 rfl (TC (vs := [.agg #[_, _, _, _, _], .agg #[_, _, _, _], .agg #[_, _, _, _], .int .i64 _]) vk (hih _ _ (i + 1) _ h8 hgr hf1 (Nat.le_trans (Nat.le_succ f) hf9)) rfl fun aP bp y K => ⟨.inl (dE hS (ep.grown y vt1.ownBlock)), ?_⟩)
 have aQ := dh.lt2 hot1
 have aR := (Below.size hB)
 replace hB := Ze hB y
 replace e := y.at e
 replace j := y.at j
 replace g := y.at g
 replace d := y.at d
 replace p := y.at p
 replace r := y.at r
 replace hot1 := y.ow hot1
 replace hS := dE hS (ep.grown y vt1.ownBlock)
 have ao := eP.new aQ K
 replace K := dh.mono K aR
 try simp only [Bool.not_false, Bool.not_true] at K
 have hlc := iW (n := n) f (s7 n (dp on i false) (dp on i true) (eM n f (andNot (dp on i false) (dp may i true)) (dp may i false) (i + 1)) (eM n f (andNot (dp on i true) (dp may i false)) (dp may i true) (i + 1))) (dp may i false &&& dp may i true) (i + 1)
 refine To 11 rfl (jD (v := vt1) (v2 := aP) rfl rfl fh jp Dd hot1 K.sl (oU) (by have := Below.size hB; omega) (by simp only [List.nil_append, List.length_append, List.length_map, Nat.zero_or]; have hlc2 := hlc; unfold s7 at hlc2; omega) (by simp only [List.nil_append, List.length_append, List.length_map, Nat.zero_or]; have hlc2 := hlc; unfold s7 at hlc2; omega) fun ap bq z aa aS => ⟨.inl (dE hS z), ?_⟩)
 replace hS := dE hS z
 have br := eP.app ao aS K
 replace aa := dh.app (enc := ik) rfl rfl rfl rfl aa
 replace hB := ZG hB z hot1
 replace e := At.grownOw e hot1 z Dd
 replace j := At.grownOw j hot1 z Dd
 replace g := At.grownOw g hot1 z Dd
 replace d := At.grownOw d hot1 z Dd
 replace p := At.grownOw p hot1 z Dd
 replace r := At.grownOw r hot1 z Dd
 replace K := dh.grownAp K ao z
 clear hot1
 refine Tw 12 ap rfl rfl hS <| Td <| Zt <| dC (v := ap) rfl ⟨hB, ?_⟩
 rw [eM, if_neg h0, if_neg h1]
 exact aa
end
section
open Go Go.RowKit
theorem Lt : eO Tryz.prog 157 = some (.agg #[.int .i64 0, .int .u64 0, .int .u64 0, .int .u64 0, .int .u64 0]) := by kernel_rfl
theorem G7 : (Tryz.prog.info? 49).map (·.size) = some 4 := by kernel_rfl
theorem uC {f : Nat → Value} {w : World} {d : Option Nat} {ty : TypeId} {ps : String} {af : Array Edge} {g : Option (Nat × Bool)} {x0 x1 : Operand} {c0_0 c1_0 c1_1 c1_2 c1_3 : Value} (h0 : dP f x0 = c0_0) (k0 : c0_0.cells = #[c0_0]) (h1 : dP f x1 = .agg #[c1_0, c1_1, c1_2, c1_3]) :
    (execOp (dP f) ⟨d, .build 157 #[(0, x0), (1, x1)], ty, ps, af, g⟩).run Tryz.prog w = .ok (.value (.agg #[c0_0, c1_0, c1_1, c1_2, c1_3])) w := by
  obtain ⟨i0, hi0, hz0⟩ := Option.bind_eq_some_iff.1 (show (Tryz.prog.info? 157).bind (·.zero) = _ from Lt)
  obtain ⟨j3, hj3, hs3⟩ := Option.map_eq_some_iff.1 iu
  obtain ⟨j49, hj49, hs49⟩ := Option.map_eq_some_iff.1 G7
  simp [execOp, h0, k0, h1, Instr.build, zeroValue, typeInfo, sizeOf, hi0, hz0, run_underlying Tryz.underlying157, Instr.fill, fe, hj3, hs3, hj49, hs49]
theorem PZ : dD Tryz.prog 86 = true := by kernel_rfl
theorem PA : dD Tryz.prog 87 = true := by kernel_rfl
theorem Fr (n : Nat) : ∀ (f : Nat), ∀ (on may i : Nat) (w : World), n ≤ 8 → m8 n on may i → n + 1 - i ≤ f → f ≤ 9 → Fn Tryz.prog 113 #[.agg #[.int .i64 (n : Int), wv (fo n) 0, wv (fo n) 1, wv (fo n) 2, wv (fo n) 3], eT on, eT may, .int .i64 (i : Int)] w fun v w' => dh ik 2 40 w' w.heap.size v (eM n f on may i)
  | 0, on, may, i, w, _, hg, hf, _ => by have := hg.le; omega
  | f + 1, on, may, i, w, h8, hg, hf, hf9 => J5 n f i on may w (Fr n f) h8 hg hf hf9
theorem zP (on may : Nat) (n : Int) (w : World) :
    Fn Tryz.prog 86 #[eT on, eT may, .int .i64 n] w fun v w' => if xY on may n = true then ∃ x, v = .tuple #[x, .int .i64 0] ∧ dh ik 2 40 w' w.heap.size x (jh on may n) else v = .tuple #[.slice none 0 0, .int .i64 1] := by
 refine dq (n := 35) Tryz.func86 rfl rfl (Nat.le_of_ble_eq_true rfl) ?_
 have hB : Below w.heap.size w w := Below.refl _ _
 refine Zr <| Zy (dY (c := #[_, _, _, _]) rfl rfl fun K W3 s y a => ?_)
 have L := ZO s hB
 clear s
 replace hB := Ze hB y
 refine Zy (dY (c := #[_, _, _, _]) rfl rfl fun M W6 k t b => ?_)
 have N := ZO k hB
 have O := Zn k a.lt
 clear k
 replace hB := Ze hB t
 replace a := t.at a
 refine Zw (.slice none 0 0) rfl <| Zw (.int .i64 0) rfl <| cT <| Zr <| Zi rfl <| ZC w9 (od _ _) rfl fun P Q l z => ?_
 replace hB := Ze hB l
 replace a := l.at a
 replace b := l.at b
 obtain ⟨sa, er, rfl, hhP1_1⟩ := qE z
 refine Zw (.tuple #[.agg #[_, _, _, _], .int .i64 _]) rfl <| Zv (dG rfl) <| Zv (dJ rfl) <| Zy (dt eR rfl fun A B e m d => ?_)
 have C := ZO e hB
 have D := Zn e a.lt
 have E := Zn e b.lt
 clear e
 replace hB := Ze hB m
 replace a := m.at a
 replace b := m.at b
 replace d : At B A #[wv 0 0, wv 0 1, wv 0 2, wv 0 3] 49 := d
 refine Zy (dg rfl rfl df rfl d rfl rfl fun R o F => ?_)
 replace hB := Zg hB o C
 replace a := At.grownNe a D o
 replace b := At.grownNe b E o
 replace d := F
 refine Zi rfl <| cT <| cY fun S G => Zr <| Zi rfl <| Zv (f4 rfl rfl) <| ZX rfl (fun f => ?_) fun f => ?_
 refine Zs <| Zs <| Zs <| Zs <| Zw (.bool true) rfl <| Zw (.bool true) rfl <| Zs <| Zs <| Zs <| Zs <| Zw (.bool true) rfl <| cT <| dB rfl <| Zr ?_
 refine Zw (.slice none 0 0) rfl <| Zw (.int .i64 1) rfl <| cT <| Zt <| d6 (v := .slice none 0 0) rfl (v1 := .int .i64 1) rfl ⟨hB, ?_⟩
 rw [if_neg (Na hhP1_1 f)]
 refine Zv (db rfl df rfl a) <| Zv (db rfl df rfl b) <| ZC (vs := [.agg #[_, _, _, _], .agg #[_, _, _, _]]) qg (iw _ _ _) rfl fun T U g H => ?_
 replace hB := Ze hB g
 replace a := g.at a
 replace b := g.at b
 replace d := g.at d
 obtain rfl := H
 refine Zv (eX rfl) <| Zb rfl <| ZX rfl (fun p => ?_) fun p => ?_
 refine Zs <| Zs <| Zs <| Zs <| Zw (.bool true) rfl <| cT <| dB rfl <| Zr <| Zw (.slice none 0 0) rfl <| Zw (.int .i64 1) rfl <| cT <| Zt <| d6 (v := .slice none 0 0) rfl (v1 := .int .i64 1) rfl ⟨hB, ?_⟩
 rw [if_neg (MZ p)]
 refine Zv (db rfl df rfl b) <| Zv (db rfl df rfl d) <| ZC (vs := [.agg #[_, _, _, _], .agg #[_, _, _, _]]) qg (iw _ _ _) rfl fun V W i I => ?_
 replace hB := Ze hB i
 replace a := i.at a
 replace b := i.at b
 replace d := i.at d
 obtain rfl := I
 refine Zv (eX rfl) <| Zb rfl <| cT <| ZQ rfl (fun q => ?_) fun q => ?_
 refine Zr <| Zw (.slice none 0 0) rfl <| Zw (.int .i64 1) rfl <| cT <| Zt <| d6 (v := .slice none 0 0) rfl (v1 := .int .i64 1) rfl ⟨hB, ?_⟩
 rw [if_neg (Ld hhP1_1 f q)]
 refine c7 <| G _ _ ?_
 have hok : xY on may n = true := PR hhP1_1 f p q
 obtain ⟨h0, h8, rfl, rfl⟩ := hhP1_1.resolve_right (fun h => h.1 (ku (j6.1 hok).1))
 obtain ⟨n, rfl⟩ := Int.eq_ofNat_of_zero_le h0
 obtain ⟨hok8, hok9⟩ := zC hok
 refine Zr <| Zi rfl <| Zv (db rfl df rfl d) <| Zv (uC (h0 := rfl) (k0 := rfl) (h1 := rfl) (c0_0 := .int .i64 _)) <| Zv (db rfl df rfl a) <| Zv (db rfl df rfl b) <| ZC (vs := [.agg #[_, _, _, _, _], .agg #[_, _, _, _], .agg #[_, _, _, _], .int .i64 0]) vk (Fr n (n + 1) on may 0 _ hok8 hok9 Om Om) rfl fun u X j r => ?_
 have J := (Below.size hB)
 replace hB := Ze hB j
 replace a := j.at a
 replace b := j.at b
 replace d := j.at d
 replace r := dh.mono r J
 refine Zw u rfl <| Zw (.int .i64 0) rfl <| cT <| Zt <| d6 (v := u) rfl (v1 := .int .i64 0) rfl ⟨hB, ?_⟩
 rw [if_pos hok]
 exact ⟨_, rfl, r⟩
theorem Ag (on may : Nat) (n : Int) (w : World) :
    Fn Tryz.prog 46 #[eT on, eT may, .int .i64 n] w fun v w' => if xY on may n = true then ∃ x, v = .tuple #[x, .int .i64 0] ∧ dh ik 2 40 w' w.heap.size x (Em may n (jh on may n)) else v = .tuple #[.slice none 0 0, .int .i64 1] := by
 refine dq (n := 52) Tryz.func46 rfl rfl (Nat.le_of_ble_eq_true rfl) ?_
 have hB : Below w.heap.size w w := Below.refl _ _
 refine Zr <| Zy (dY (c := #[_, _, _, _]) rfl rfl fun T W3 I U f => ?_)
 have ar := ZO I hB
 clear I
 replace hB := Ze hB U
 refine Zy (dY (c := #[_, _, _, _]) rfl rfl fun V W6 E J g => ?_)
 have au := ZO E hB
 have av := Zn E f.lt
 clear E
 replace hB := Ze hB J
 replace f := J.at f
 refine Zw (.slice none 0 0) rfl <| Zw (.int .i64 0) rfl <| cT <| Zr <| Zv (db rfl df rfl f) <| Zv (db rfl df rfl g) <| Zi rfl <| ZC (vs := [.agg #[_, _, _, _], .agg #[_, _, _, _], .int .i64 _]) PZ (zP _ _ _ _) rfl fun aw ax F X => ?_
 have Y := (Below.size hB)
 replace hB := Ze hB F
 replace f := F.at f
 replace g := F.at g
 obtain ⟨x_hP1_3, er_hP1_3, l_hP1_3, rfl, ho_hP1_3, hc_hP1_3⟩ := Fk X
 replace ho_hP1_3 := dh.mono ho_hP1_3 Y
 refine Zw (.tuple #[x_hP1_3, .int .i64 _]) rfl <| Zv (dG rfl) <| Zv (dJ rfl) <| Zw x_hP1_3 rfl <| Zi rfl <| cT <| cY fun ay Z => Zr <| Zi rfl <| Zv (f4 rfl rfl) <| cT <| ZQ rfl (fun G => ?_) fun G => ?_
 refine Zr <| Zi rfl <| Zw (.slice none 0 0) rfl <| Zi rfl <| cT <| Zt <| d6 (v := .slice none 0 0) rfl (v1 := .int .i64 _) rfl ⟨hB, ?_⟩
 obtain ⟨hno, hee⟩ := P4 hc_hP1_3 G
 rw [if_neg hno, hee]
 refine c7 <| Z _ _ ?_
 obtain ⟨hok, hleq⟩ := Il hc_hP1_3 G
 subst hleq
 have hll := AF (on := on) (may := may) (ku (j6.1 hok).1).2
 refine Zr <| Zy (gR (enc := iN) (encV := Value.bool) fun A az K B e => ?_)
 have aa := ZO K hB
 clear K
 replace hB := Ze hB B
 replace f := B.at f
 replace g := B.at g
 replace ho_hP1_3 := B.ow ho_hP1_3
 replace e : dT iN Value.bool _ _ (fx []) := e
 refine Zw (.map (some A)) rfl <| cT <| Zr <| Zw (.slice none 0 0) rfl <| cT <| cY fun aA ab => Zr <| Zw x_hP1_3 rfl <| Zv (dz (v := x_hP1_3) rfl ho_hP1_3.sl fh) <| Zw (.int .i64 0) rfl <| cT <| c9 ?_
 refine dy (σ := (Nat) × (Value)) [11, 13, 14, 15, 29, 30, 31, 32, 33, 34, 35, 36, 37, 38, 39, 40, 41, 42, 43, 44, 45, 46, 47, 48, 49, 50] (fun (k, v0) => [(29, .int .i64 (k : Int)), (11, v0)]) (fun sg W => match sg with | (k, v0) => (Below w.heap.size w W) ∧ (At W T _ 49) ∧ (At W V _ 49) ∧ (dh ik 2 40 W w.heap.size x_hP1_3 _) ∧ (dT iN Value.bool W A (fx (iT may n (jh on may n) k))) ∧ (eP v0 x_hP1_3) ∧ (dh ik 2 40 W w.heap.size v0 (iT may n (jh on may n) k)) ∧ (k ≤ (jh on may n).length) ∧ (True)) (fun (k, v0) => (jh on may n).length - k) ((0, .slice none 0 0)) ⟨rfl, rfl, trivial⟩ ⟨hB, f, g, ho_hP1_3, e, eP.nilL, dh.nil, (Nat.zero_le _), trivial⟩ ?_
 clear hB f g ho_hP1_3 e
 rintro ⟨k, v0⟩ aB aC ⟨hB, f, g, ho_hP1_3, e, hap, ho, hk, _⟩ aD L
 refine Zr <| Zv (dM rfl rfl) <| cT <| cY fun aE ac => ZQ rfl (fun ad => ?_) fun ad => ?_
 refine c7 <| ac _ _ <| cY fun aF M => c9 <| Zr <| Zv (dF (v := x_hP1_3) rfl ho_hP1_3.sl rfl fh Om (by first | omega | (simp only [cV, cW, cX, da, de]; omega))) <| Zv (iy rfl dQ (dN.cell ho_hP1_3.sl gt ⟨0, 0⟩ Om (by first | omega | (simp only [cV, cW, cX, da, de]; omega)) 0 rfl) (dN.cell ho_hP1_3.sl gt ⟨0, 0⟩ Om (by first | omega | (simp only [cV, cW, cX, da, de]; omega)) 1 rfl)) <| Zy (dt jl rfl fun N aG C s h => ?_)
 have ae := ZO C hB
 have af := dh.neB (b := N) ho_hP1_3 (Nat.le_of_eq C.symm)
 have O := dh.neB (b := N) ho (Nat.le_of_eq C.symm)
 clear C
 replace hB := Ze hB s
 replace f := s.at f
 replace g := s.at g
 replace ho_hP1_3 := s.ow ho_hP1_3
 replace e := s.mapT e
 replace ho := s.ow ho
 refine Zy (dg rfl rfl dQ rfl h rfl rfl fun aH t ag => ?_)
 replace hB := Zg hB t ae
 replace f := At.grownAt f h t Dd
 replace g := At.grownAt g h t Dd
 replace ho_hP1_3 := dh.grownAtNe ho_hP1_3 af t
 replace e := dT.grownAt e h t
 replace ho := dh.grownAtNe ho O t
 replace h := ag
 refine cT ?_
 obtain ⟨hi1, hi2, hi3, hi4⟩ := ve hok (dV (d := ⟨0, 0⟩) (show k < (jh on may n).length by omega))
 have hgl := qy may n (jh on may n) k
 refine Zr <| Zv (db rfl dQ rfl h) <| Zv (db rfl df rfl g) <| Zi rfl <| ZC (vs := [.agg #[_, _], .agg #[_, _, _, _], .int .i64 _]) PA (zB ((jh on may n).getD k ⟨0, 0⟩) may n _ ⟨hi2, hi3⟩) rfl fun aI aJ l P => ?_
 replace hB := Ze hB l
 replace f := l.at f
 replace g := l.at g
 replace ho_hP1_3 := l.ow ho_hP1_3
 replace e := l.mapT e
 replace ho := l.ow ho
 replace h := l.at h
 rw [if_pos hi1] at P
 obtain rfl := P
 refine Zw (.tuple #[.agg #[_, _], .int .i64 _]) rfl <| Zv (dG rfl) <| Zv (dJ rfl) <| Zy (dt jl rfl fun Q aK z m i => ?_)
 have ah := ZO z hB
 have ai := dh.neB (b := Q) ho_hP1_3 (Nat.le_of_eq z.symm)
 have R := dh.neB (b := Q) ho (Nat.le_of_eq z.symm)
 have aj := Zn z h.lt
 clear z
 replace hB := Ze hB m
 replace f := m.at f
 replace g := m.at g
 replace ho_hP1_3 := m.ow ho_hP1_3
 replace e := m.mapT e
 replace ho := m.ow ho
 replace h := m.at h
 refine Zy (dg rfl rfl dQ rfl i rfl rfl fun aL o ak => ?_)
 replace hB := Zg hB o ah
 replace f := At.grownAt f i o Dd
 replace g := At.grownAt g i o Dd
 replace ho_hP1_3 := dh.grownAtNe ho_hP1_3 ai o
 replace e := dT.grownAt e i o
 replace ho := dh.grownAtNe ho R o
 replace h := At.grownNe h aj o
 replace i := ak
 refine Zi rfl <| cT <| Zr <| Zw (.map (some A)) rfl <| Zv (db rfl dQ rfl i) <| Zv (fV (enc := iN) (encV := Value.bool) (v0 := false) (k := (jL may n ((jh on may n).getD k ⟨0, 0⟩))) rfl rfl lD mE (fun a => ⟨a, rfl⟩) mM ph rfl e) <| Zv (eX rfl) <| cT <| ZQ rfl (fun p => ?_) fun p => ?_
 refine Zr <| Zw (.map (some A)) rfl <| Zv (db rfl dQ rfl i) ?_
 refine g7 (dd := none) rfl rfl rfl (fL (enc := iN) (encV := Value.bool) (k := (jL may n ((jh on may n).getD k ⟨0, 0⟩))) (v := true) rfl rfl rfl lD mE (fun a => ⟨a, rfl⟩) mM e (fun aM q al => ?_))
 replace hB := Zg hB q aa
 replace f := At.grownMap f e q
 replace g := At.grownMap g e q
 replace ho_hP1_3 := dh.grownMap ho_hP1_3 e q
 replace ho := dh.grownMap ho e q
 replace h := At.grownMap h e q
 replace i := At.grownMap i e q
 replace e := al
 rw [jz] at e
 refine cT <| cZ <| Zw v0 rfl <| Zv (db rfl dQ rfl i) <| Zy (ff (u := .agg #[_, _]) rfl fh jp rfl Dd Dd fun H aN y j ao => ?_)
 have aO := ZO y hB
 have aP := dh.neB (b := H) ho_hP1_3 (Nat.le_of_eq y.symm)
 have aQ := dh.neB (b := H) ho (Nat.le_of_eq y.symm)
 have aR := Zn y h.lt
 have aS := Zn y i.lt
 clear y
 replace hB := Ze hB j
 replace f := j.at f
 replace g := j.at g
 replace ho_hP1_3 := j.ow ho_hP1_3
 replace e := j.mapT e
 replace ho := j.ow ho
 replace h := j.at h
 replace i := j.at i
 refine Zy (jD (v := v0) (v2 := .slice (some ⟨H, 0, none⟩) 1 1) rfl rfl fh jp Dd ho (fF ao rfl) rfl (by have := Below.size hB; omega) (by first | omega | (simp; omega) | (simp only [cV, cW, cX, da, de]; omega)) (by first | omega | (simp; omega) | (simp only [cV, cW, cX, da, de]; omega)) fun S aT r D ap => ?_)
 have aq := eP.app hap ap ho_hP1_3
 replace D := dh.snoc (enc := ik) (x := (jL may n ((jh on may n).getD k ⟨0, 0⟩))) rfl rfl rfl rfl D
 replace hB := ZG hB r ho
 replace f := At.grownOw f ho r Dd
 replace g := At.grownOw g ho r Dd
 replace ho_hP1_3 := dh.grownAp ho_hP1_3 hap r
 replace e := dT.grownOw e ho r
 replace h := At.grownOwNe h O r
 replace i := At.grownOwNe i R r
 clear ho
 refine Zw S rfl <| cT <| M _ _ <| cZ <| Zv (dm rfl rfl Om Om) <| Zi rfl <| cT ?_
 exact L _ _ ((k + 1, S)) Za ⟨rfl, rfl, trivial⟩ ⟨hB, f, g, ho_hP1_3, (by first | exact e | (rw [iT, pW (BK (kk := jL may n ((jh on may n).getD k ⟨0, 0⟩)) p)]; exact e)), aq, (by first | (rw [iT, vJ (Du (kk := jL may n ((jh on may n).getD k ⟨0, 0⟩)) p)]; exact D) | (rw [iT, pW (BK (kk := jL may n ((jh on may n).getD k ⟨0, 0⟩)) p)]; exact D)), Om, trivial⟩ (by show (jh on may n).length - (k + 1) < (jh on may n).length - k; omega)
 refine c7 <| M _ _ <| cZ <| Zv (dm rfl rfl Om Om) <| Zi rfl <| cT ?_
 exact L _ _ ((k + 1, v0)) Za ⟨rfl, rfl, trivial⟩ ⟨hB, f, g, ho_hP1_3, (by first | exact e | (rw [iT, pW (BK (kk := jL may n ((jh on may n).getD k ⟨0, 0⟩)) p)]; exact e)), hap, (by first | (rw [iT, vJ (Du (kk := jL may n ((jh on may n).getD k ⟨0, 0⟩)) p)]; exact ho) | (rw [iT, pW (BK (kk := jL may n ((jh on may n).getD k ⟨0, 0⟩)) p)]; exact ho)), Om, trivial⟩ (by show (jh on may n).length - (k + 1) < (jh on may n).length - k; omega)
 refine dr <| ab _ _ <| Zr <| Zw v0 rfl <| Zw v0 rfl <| Zw (.int .i64 0) rfl <| cT <| Zt <| d6 (v := v0) rfl (v1 := .int .i64 0) rfl ⟨hB, ?_⟩
 obtain rfl : k = (jh on may n).length := by omega
 rw [if_pos hok]
 exact ⟨_, rfl, ho⟩
end
section
open Go Go.RowKit
def Ds (l : List Cb) (n : Nat) (but : Int) : Nat → Nat
 | 0 => 0
 | k + 1 => if (k : Int) = but then Ds l n but k else Ds l n but k ||| q7 (l.getD k ⟨0, 0⟩).m ((l.getD k ⟨0, 0⟩).v &&& (l.getD k ⟨0, 0⟩).m) n
theorem kX {l : List Cb} {n : Nat} {but : Int} (hn : n ≤ 8) (p : Nat) : ∀ k, k ≤ l.length → (∀ c, c ∈ l → c.v &&& c.m = c.v) → ((Ds l n but k).testBit p = true ↔ ∃ j, j < k ∧ ¬ (j : Int) = but ∧ p < 2 ^ n ∧ hold (l.getD j ⟨0, 0⟩) p)
 | 0, _, _ => by simp [Ds]
 | k + 1, hk, hv => by
  have ih := kX (but := but) hn p k (by omega) hv
  rw [Ds]
  split
  ·rename_i h
   rw [ih]
   constructor
   ·rintro ⟨j, hj, r⟩; exact ⟨j, by omega, r⟩
   ·rintro ⟨j, hj, h2, r⟩
    rcases Nat.lt_succ_iff_lt_or_eq.1 hj with hj | rfl
    ·exact ⟨j, hj, h2, r⟩
    ·exact absurd h h2
  ·rename_i h
   rw [Nat.testBit_or, Bool.or_eq_true, ih, jJ hn, hv _ (dV (by omega)), Bool.and_eq_true, decide_eq_true_eq, decide_eq_true_eq]
   constructor
   ·rintro (⟨j, hj, r⟩ | ⟨h1, h2⟩)
    ·exact ⟨j, by omega, r⟩
    ·exact ⟨k, by omega, h, h1, h2⟩
   ·rintro ⟨j, hj, h2, h3, h4⟩
    rcases Nat.lt_succ_iff_lt_or_eq.1 hj with hj | rfl
    ·exact .inl ⟨j, hj, h2, h3, h4⟩
    ·exact .inr ⟨h3, h4⟩
section
variable {on m : Nat} {n : Int}
theorem Ii (h : xY on m n = true) : ∃ k : Nat, n = (k : Int) ∧ k ≤ 8 ∧ m8 k on m 0 := by
 obtain ⟨h0, h8⟩ := ku (j6.1 h).1
 obtain ⟨k, rfl⟩ := Int.eq_ofNat_of_zero_le h0
 obtain ⟨h1, h2⟩ := zC h
 exact ⟨k, rfl, h1, h2⟩
theorem Nl (h : xY on m n = true) : ∀ c, c ∈ jh on m n → c.v &&& c.m = c.v := fun c hc => (ve h hc).2.2.2
theorem P2 (h : xY on m n = true) : eA on (Ds (jh on m n) n.toNat (-1) (jh on m n).length) = true := by
 have hv := Nl h
 obtain ⟨k, rfl, h8, hg⟩ := Ii h
 rw [ea]
 intro p hp ho
 obtain ⟨c, hc, hh⟩ := (kH h8 (k + 1) on m 0 hg (by omega)).2 p (hg.out p hp (hg.sub p hp ho)) ho
 obtain ⟨j, hj, rfl⟩ := fq (d := ⟨0, 0⟩) hc
 exact (kX h8 p _ (Nat.le_refl _) hv).2 ⟨j, hj, by omega, hg.out p hp (hg.sub p hp ho), hh⟩
abbrev Cq (on m : Nat) (n : Int) : List Cb := Em m n (jh on m n)
theorem Lz (h : xY on m n = true) : (Cq on m n).length ≤ 19683 := Nat.le_trans (qy _ _ _ _) (AF (ku (j6.1 h).1).2)
theorem tY (h : xY on m n = true) {c : Cb} (hc : c ∈ Cq on m n) : gT c.m c.v m n = true := by
 obtain ⟨j, hj, rfl⟩ := (pX _).1 hc
 exact (rC (ve h (dV hj)).1).1
theorem Rh (h : xY on m n = true) : ∀ c, c ∈ Cq on m n → c.m < 256 ∧ c.v < 256 := fun c hc => by
 have := lT (kx (tY h hc))
 have h2 := fl (ku (j6.1 h).1).2
 omega
theorem Ni (h : xY on m n = true) : ∀ c, c ∈ Cq on m n → c.v &&& c.m = c.v := fun c hc => (d4.1 (kx (tY h hc))).2.2.2
theorem N4 (h : xY on m n = true) : eA on (Ds (Cq on m n) n.toNat (-1) (Cq on m n).length) = true := by
 have hv := Ni h
 have h1 := P2 h
 have hcv := Nl h
 have hgp : ∀ j, j < (jh on m n).length → ∃ k, k < (Cq on m n).length ∧ (Cq on m n).getD k ⟨0, 0⟩ = jL m n ((jh on m n).getD j ⟨0, 0⟩) := fun j hj => fq ((pX _).2 ⟨j, hj, rfl⟩)
 have hgr : ∀ j, j < (jh on m n).length → jj (jL m n ((jh on m n).getD j ⟨0, 0⟩)) ((jh on m n).getD j ⟨0, 0⟩) = true := fun j hj => (rC (ve h (dV hj)).1).2
 obtain ⟨q, rfl, h8, hg⟩ := Ii h
 rw [ea]
 intro p hp ho
 obtain ⟨j, hj, _, h2, h3⟩ := (kX h8 p _ (Nat.le_refl _) hcv).1 (ea.1 h1 p hp ho)
 obtain ⟨k, hk, he⟩ := hgp j hj
 refine (kX h8 p _ (Nat.le_refl _) hv).2 ⟨k, hk, by omega, h2, ?_⟩
 have := lH (p := p) (show (jL m q ((jh on m q).getD j ⟨0, 0⟩)).v &&& (jL m q ((jh on m q).getD j ⟨0, 0⟩)).m = _ by rw [← he]; exact hv _ (dV hk)) (hgr j hj) h3
 rw [he]
 exact this
end
end
section
open Go Go.RowKit
def sL (S : Sp) (o : Nat) : List Cb := Em (jq S o) S.n (jh (AA S o) (jq S o) S.n)
def rH (S : Sp) (o i : Nat) : Rw := uo S ⟨(sL S o).getD i ⟨0, 0⟩, 2 ^ o⟩
def E5 (S : Sp) (o : Nat) (acc : List Rw) : Nat → List Rw
 | 0 => acc
 | i + 1 => iI (E5 S o acc i) (rH S o i)
def DA (S : Sp) : Nat → List Rw
 | 0 => []
 | o + 1 => E5 S o (DA S o) (sL S o).length
def kE (S : Sp) : List Rw := DA S S.on.length
theorem qB {S : Sp} (hr : dO S = true) {o : Nat} (ho : o < S.on.length) : xY (AA S o) (jq S o) S.n = true := by
 obtain ⟨h0, h8, h1, h4, h5, hin⟩ := d9.1 hr
 refine j6.2 ⟨?_, (hin o ho).1⟩
 unfold vt
 rw [(hin o ho).2, decide_eq_true h0, decide_eq_true h8]
 rfl
theorem Ki {S : Sp} (hr : dO S = true) {o : Nat} (ho : o < S.on.length) : (sL S o).length ≤ 19683 := Lz (qB hr ho)
theorem Gb {S : Sp} (hr : dO S = true) {o i : Nat} (ho : o < S.on.length) (hi : i < (sL S o).length) : ((sL S o).getD i ⟨0, 0⟩).m < 256 ∧ ((sL S o).getD i ⟨0, 0⟩).v < 256 := Rh (qB hr ho) _ (dV hi)
theorem wb {S : Sp} (hr : dO S = true) {o i : Nat} (ho : o < S.on.length) (hi : i < (sL S o).length) : qb S ⟨(sL S o).getD i ⟨0, 0⟩, 2 ^ o⟩ = true := by
 obtain ⟨h0, h8, h1, h4, h5, hin⟩ := d9.1 hr
 refine gE.2 ⟨hr, Nat.two_pow_pos o, fun j hj => ?_⟩
 have hj' : (2 ^ o).testBit j = true := hj
 rw [Nat.testBit_two_pow, decide_eq_true_eq] at hj'
 subst hj'
 exact ⟨by omega, (gg.1 (tY (qB hr ho) (dV hi))).1⟩
theorem QK {S : Sp} (hr : dO S = true) {o i : Nat} (ho : o < S.on.length) (hi : i < (sL S o).length) : (rH S o i).c.m < 256 ∧ (rH S o i).c.v < 256 ∧ (rH S o i).o < 256 := by
 obtain ⟨h0, h8, h1, h4, h5, hin⟩ := d9.1 hr
 obtain ⟨g1, g2⟩ := tA (S := S) (x := ⟨(sL S o).getD i ⟨0, 0⟩, 2 ^ o⟩) (Gb hr ho hi) S.n.toNat
 refine ⟨g1, g2, ?_⟩
 have := (oH (fH.1 (na (wb hr ho hi)).1).1).2
 show (uo S ⟨(sL S o).getD i ⟨0, 0⟩, 2 ^ o⟩).o < 256
 omega
theorem zH (S : Sp) (o : Nat) (acc : List Rw) : ∀ i, (E5 S o acc i).length ≤ acc.length + i
 | 0 => Nat.le_refl _
 | i + 1 => Nat.le_trans (qp _ _) (by have := zH S o acc i; omega)
theorem Ad {S : Sp} (hr : dO S = true) : ∀ o, o ≤ S.on.length → (DA S o).length ≤ o * 19683
 | 0, _ => Nat.le_refl _
 | o + 1, ho => by
  have h1 := Ad hr o (by omega)
  have h2 := zH S o (DA S o) (sL S o).length
  have h3 := Ki hr (show o < S.on.length by omega)
  rw [DA]
  omega
theorem EL {S : Sp} {o : Nat} {acc : List Rw} {x : Rw} : ∀ i, x ∈ E5 S o acc i ↔ x ∈ acc ∨ ∃ q, q < i ∧ x = rH S o q
 | 0 => by simp [E5]
 | i + 1 => by
  rw [E5, gv, EL i]
  constructor
  ·rintro ((h | ⟨q, hq, h⟩) | h)
   ·exact .inl h
   ·exact .inr ⟨q, by omega, h⟩
   ·exact .inr ⟨i, by omega, h⟩
  ·rintro (h | ⟨q, hq, h⟩)
   ·exact .inl (.inl h)
   ·rcases Nat.lt_succ_iff_lt_or_eq.1 hq with hq | rfl
    ·exact .inl (.inr ⟨q, hq, h⟩)
    ·exact .inr h
theorem uP {S : Sp} {x : Rw} : ∀ o, x ∈ DA S o ↔ ∃ q, q < o ∧ ∃ i, i < (sL S q).length ∧ x = rH S q i
 | 0 => by simp [DA]
 | o + 1 => by
  rw [DA, EL, uP o]
  constructor
  ·rintro (⟨q, hq, h⟩ | h)
   ·exact ⟨q, by omega, h⟩
   ·exact ⟨o, by omega, h⟩
  ·rintro ⟨q, hq, h⟩
   rcases Nat.lt_succ_iff_lt_or_eq.1 hq with hq | rfl
   ·exact .inl ⟨q, hq, h⟩
   ·exact .inr h
theorem yA {S : Sp} (hr : dO S = true) : (kE S).length ≤ 78732 := by
 have h := Ad hr _ (Nat.le_refl _)
 obtain ⟨h0, h8, h1, h4, h5, hin⟩ := d9.1 hr
 unfold kE
 omega
theorem uc {S : Sp} (hr : dO S = true) {x : Rw} (hx : x ∈ kE S) : oR S x = true := by
 obtain ⟨q, hq, i, hi, rfl⟩ := (uP _).1 hx
 exact (na (wb hr hq hi)).1
theorem Ga {S : Sp} (hr : dO S = true) : gF (kE S) := fun x hx => by
 obtain ⟨q, hq, i, hi, rfl⟩ := (uP _).1 hx
 exact QK hr hq hi
theorem tJ {S : Sp} (hr : dO S = true) : gW S (kE S) = true := by
 obtain ⟨h0, h8, h1, h4, h5, hin⟩ := d9.1 hr
 have hm : oK S (kE S) = true := wY.2 fun x hx => by
  have hi := (fH.1 (uc hr hx)).1
  exact jo.2 ⟨gz hi, (gE.1 hi).2.1, h5 ▸ (oH hi).1⟩
 refine gr.2 ⟨hr, hm, fun o ho => (jW hr hm ho).2 fun p hp => ⟨fun hb => ?_, fun hb => ?_⟩⟩
 ·have hok := qB hr ho
  have hp8 : p < 256 := by have := fl h8; omega
  obtain ⟨i, hi, _, _, hh⟩ := (kX (n := S.n.toNat) (by omega) p _ (Nat.le_refl _) (Ni hok)).1 (ea.1 (N4 hok) p hp8 hb)
  obtain ⟨hpr, hho⟩ := na (wb hr ho (i := i) hi)
  obtain ⟨g1, g2⟩ := oY.1 hho
  have hv : (rH S o i).c.v &&& (rH S o i).c.m = (rH S o i).c.v := (d4.1 (gz (fH.1 hpr).1)).2.2.2
  unfold yX
  rw [List.any_eq_true]
  refine ⟨rH S o i, (uP _).2 ⟨o, ho, i, hi, rfl⟩, ?_⟩
  rw [Bool.and_eq_true]
  refine ⟨g2 o (by show (2 ^ o).testBit o = true; rw [Nat.testBit_two_pow]; simp), ?_⟩
  have := lH (p := p) hv g1 hh
  unfold pN
  rw [decide_eq_true_eq, hv]
  exact this
 ·unfold yX at hb
  rw [List.any_eq_true] at hb
  obtain ⟨x, hx, h2⟩ := hb
  rw [Bool.and_eq_true] at h2
  have hi := (fH.1 (uc hr hx)).1
  have hv := (d4.1 (gz hi)).2.2.2
  have h3 := h2.2
  unfold pN at h3
  rw [decide_eq_true_eq, hv] at h3
  exact (gm.1 ((gE.1 hi).2.2 o h2.1).2).2 p hp h3
theorem vj {ml : List Rw} {kk : Rw} (h : (!(ij (fx ml) ⟨⟨kk.c.m, kk.c.v⟩, kk.o⟩).getD false) = true) : kk ∉ ml := by
 rw [lF] at h
 simpa using h
theorem pF {ml : List Rw} {kk : Rw} (h : (!(ij (fx ml) ⟨⟨kk.c.m, kk.c.v⟩, kk.o⟩).getD false) = false) : kk ∈ ml := by
 rw [lF] at h
 simpa using h
theorem vl {S : Sp} {o i : Nat} {acc : List Rw} (h : rH S o i ∉ E5 S o acc i) : E5 S o acc i ++ [rH S o i] = E5 S o acc (i + 1) := (vJ h).symm
theorem np {S : Sp} {o i : Nat} {acc : List Rw} (h : rH S o i ∈ E5 S o acc i) : E5 S o acc i = E5 S o acc (i + 1) := (pW h).symm
end
section
open Go Go.RowKit
theorem Ol80_0 {p : Prop} (h : p := by first | omega | (simp only [cV, cW, cX, da, de]; omega)) : p := h
theorem PL : dD Tryz.prog 46 = true := by kernel_rfl
theorem IJ : dD Tryz.prog 47 = true := by kernel_rfl
theorem vA : l7 Tryz.prog 86 = some (42, 4) := by kernel_rfl
theorem Aa {f : Nat → Value} {w : World} {d : Option Nat} {ty t2 : TypeId} {ps : String} {af : Array Edge} {g : Option (Nat × Bool)} {x y : Operand} {a0 a1 a2 b0 b1 b2 : Int} (hx : dP f x = .agg #[.int .u8 a0, .int .u8 a1, .int .u8 a2]) (hy : dP f y = .agg #[.int .u8 b0, .int .u8 b1, .int .u8 b2]) :
    (execOp (dP f) ⟨d, .binOp .eql 42 x y t2, ty, ps, af, g⟩).run Tryz.prog w = .ok (.value (.bool (decide ((a0 = b0 ∧ a1 = b1 ∧ a2 = b2))))) w := by
  have hg : Tryz.prog.eqGuardType Tryz.prog.depth 42 = false := by kernel_rfl
  have hp42 : Tryz.prog.stoodInHeld 42 = false := by kernel_rfl
  have hu42 : Tryz.prog.underlying 42 = some (.struct (Tryz.prog.fieldsOf 42)) := by kernel_rfl
  have hp40 : Tryz.prog.stoodInHeld 40 = false := by kernel_rfl
  have hu40 : Tryz.prog.underlying 40 = some (.struct (Tryz.prog.fieldsOf 40)) := by kernel_rfl
  obtain ⟨j40, hj40, hs40⟩ := Option.map_eq_some_iff.1 (show (Tryz.prog.info? 40).map (·.size) = some 2 by kernel_rfl)
  simp only [execOp, hx, hy, Sem.run_bind, run_eqGuard_agg _ _ _ _ _ _ _ hg, Result.andThen_ok, run_eql_struct, run_equalIn_agg _ 9999 42 _ _ hu42 hp42]
  simp only [Program.fieldsOf, Tryz.underlying42]
  simp [Op.eqFields, part, isAgg, run_equalIn_int _ 9998 5 _ _ _ _ Tryz.underlying5, run_underlying Tryz.underlying5, run_equalIn_agg _ 9998 40 _ _ hu40 hp40, Program.fieldsOf, Tryz.underlying40, run_equalIn_int _ 9997 5 _ _ _ _ Tryz.underlying5, sizeOf, typeInfo, hj40, hs40, run_underlying Tryz.underlying40]
  by_cases q0 : a0 = b0 <;> by_cases q1 : a1 = b1 <;> by_cases q2 : a2 = b2 <;> simp [q0, q1, q2]
theorem te : pm Tryz.prog 42 (fun v => ∃ a : Rw, v = rc a) := by
  refine ou Tryz.underlying42 ?_ ?_ ?_ ?_
  · rintro w _ _ ⟨a, rfl⟩ ⟨c, rfl⟩
    have hg : Tryz.prog.eqGuardType Tryz.prog.depth 42 = false := by kernel_rfl
    exact ⟨_, qV hg (Aa rfl rfl), by rw [decide_eq_true_eq]; constructor <;> intro h <;> simpa [rc] using h⟩
  · rintro _ _ ⟨a, rfl⟩ ⟨c, rfl⟩
    exact .inl rfl
  · rintro w em _ ⟨a, rfl⟩
    have h2 : ∀ k, (Instr.checkKey em (k + 1 + 1 + 1) 42 (rc a)).run Tryz.prog w = .ok () w := fun k => by
      simp [rc, Instr.checkKey, part, isAgg, run_underlying Tryz.underlying42, run_underlying Tryz.underlying40, run_underlying Tryz.underlying5]
    exact h2 9997
  · rintro _ ⟨a, rfl⟩
    simp [rc, Instr.sameBits]
theorem Ac (S : Sp) (onV mayV : Value) (w : World) (hon : dN gp 4 w onV S.on) (hmay : dN gp 4 w mayV S.may) :
    Fn Tryz.prog 21 #[.agg #[.int .i64 S.n, onV, mayV]] w fun v w' => if dO S = true then ∃ x, v = .tuple #[x, .int .i64 0] ∧ dh fJ 3 42 w' w.heap.size x (kE S) else v = .tuple #[.slice none 0 0, .int .i64 1] := by
 refine dq (n := 66) Tryz.func21 rfl rfl (Nat.le_of_ble_eq_true rfl) ?_
 have hB : Below w.heap.size w w := Below.refl _ _
 refine Zr <| Zy (dY (c := #[_, _, _]) rfl rfl fun aj W3 ak av f => ?_)
 have aY := ZO ak hB
 clear ak
 replace hB := Ze hB av
 refine Zw (.slice none 0 0) rfl <| Zw (.int .i64 0) rfl <| cT <| cY fun K6 aw => Zr <| Zv (db rfl ez rfl f) <| ZC (vs := [.agg #[_, _, _]]) rJ (iR S _ _  _ (Below.slT hB hon) (Below.slT hB hmay) ) rfl fun aZ a0 al ax => ?_
 replace hB := Ze hB al
 replace f := al.at f
 obtain rfl := ax
 refine Zv (eX rfl) <| cT <| ZQ rfl (fun af => ?_) fun af => ?_
 refine Zr <| Zw (.slice none 0 0) rfl <| Zw (.int .i64 1) rfl <| cT <| Zt <| d6 (v := .slice none 0 0) rfl (v1 := .int .i64 1) rfl ⟨hB, ?_⟩
 rw [if_neg (by rw [show dO S = false from i6 af]; decide)]
 refine c7 <| aw _ _ ?_
 have hr : dO S = true := ic af
 obtain ⟨h0, h8, h1, h4, h5, hin⟩ := d9.1 hr
 refine Zr <| Zy (gR (enc := rc) (encV := Value.bool) fun E a1 ao ap d => ?_)
 have aq := ZO ao hB
 clear ao
 replace hB := Ze hB ap
 replace f := ap.at f
 replace d : dT rc Value.bool _ _ (fx []) := d
 refine Zw (.map (some E)) rfl <| cT <| Zr <| Zw (.slice none 0 0) rfl <| cT <| cY fun a2 ay => Zr <| Zf rfl fE <| ZL onV rfl eE f rfl <| Zv (dz (v := onV) rfl (Below.slT hB hon) eg) <| Zw (.int .i64 0) rfl <| cT <| c9 ?_
 refine dy (σ := (Nat) × (Value)) [5, 6, 7, 8, 9, 11, 12, 13, 21, 22, 23, 24, 25, 26, 27, 28, 29, 30, 31, 32, 33, 34, 35, 36, 37, 38, 39, 40, 41, 42, 43, 44, 45, 46, 47, 48, 49, 50, 51, 52, 53, 54, 55, 56, 57, 58, 59, 60, 61, 62, 63, 64] (fun (o, v0) => [(21, .int .i64 (o : Int)), (5, v0)]) (fun sg W => match sg with | (o, v0) => (Below w.heap.size w W) ∧ (At W aj _ 24) ∧ (dT rc Value.bool W E (fx (DA S o))) ∧ (dh fJ 3 42 W w.heap.size v0 (DA S o)) ∧ (o ≤ S.on.length) ∧ (True)) (fun (o, v0) => S.on.length - o) ((0, .slice none 0 0)) ⟨rfl, rfl, trivial⟩ ⟨hB, f, d, dh.nil, (Nat.zero_le _), trivial⟩ ?_
 clear hB f d
 rintro ⟨o, v0⟩ a3 a4 ⟨hB, f, d, ho, hoo, _⟩ a5 az
 refine Zr <| Zv (dM rfl rfl) <| cT <| cY fun a6 aA => ZQ rfl (fun aB => ?_) fun aB => ?_
 refine c7 <| aA _ _ <| cY fun a7 aC => c9 ?_
 have O : o < S.on.length := by omega
 have h7 := xW (show o < 8 by omega)
 have hgl := Ki hr O
 have hpl := Ad hr o (by omega)
 refine Zr <| Zi rfl <| Zv (dF (v := onV) rfl (Below.slT hB hon) rfl eg Om Ol80_0) <| Zv (fw rfl df (dN.cell (Below.slT hB hon) dI 0 Om Ol80_0 0 rfl) (dN.cell (Below.slT hB hon) dI 0 Om Ol80_0 1 rfl) (dN.cell (Below.slT hB hon) dI 0 Om Ol80_0 2 rfl) (dN.cell (Below.slT hB hon) dI 0 Om Ol80_0 3 rfl)) <| Zy (dt eR rfl fun ar aD au X g => ?_)
 have aE := ZO au hB
 clear au
 replace hB := Ze hB X
 replace f := X.at f
 replace d := X.mapT d
 replace ho := X.ow ho
 replace g : At aD ar #[wv 0 0, wv 0 1, wv 0 2, wv 0 3] 49 := g
 refine Zi rfl <| Zy (dg rfl rfl df rfl g rfl rfl fun a8 Y aF => ?_)
 replace hB := Zg hB Y aE
 replace f := At.grownAt f g Y Dd
 replace d := dT.grownAt d g Y
 replace ho := dh.grownAt ho g Y Dd
 replace g := aF
 refine cT <| Zd ep fun aG P => ?_
 replace hB := Ze hB P
 replace f := P.at f
 replace d := P.mapT d
 replace ho := P.ow ho
 replace g := P.at g
 have hS := ep.refl aG
 refine Tk 0 rfl (fun _ hq => db rfl df rfl (hq.at g)) hS <| Tf 1 rfl rfl fS hS <| Tk 2 rfl (fun _ hq => dk (v := mayV) rfl eE (At.cell (hq.at f) rfl)) hS <| Ti 3 rfl rfl hS <| Tk 4 rfl (fun _ hq => dF (v := mayV) rfl (hq.slT (Below.slT hB hmay)) rfl eg Om Ol80_0) hS <| Tk 5 rfl (fun _ hq => fw rfl df (dN.cell (hq.slT (Below.slT hB hmay)) dI 0 Om Ol80_0 0 rfl) (dN.cell (hq.slT (Below.slT hB hmay)) dI 0 Om Ol80_0 1 rfl) (dN.cell (hq.slT (Below.slT hB hmay)) dI 0 Om Ol80_0 2 rfl) (dN.cell (hq.slT (Below.slT hB hmay)) dI 0 Om Ol80_0 3 rfl)) hS <| Tf 6 rfl rfl fU hS <| Tk 7 rfl (fun _ hq => dk (v := .int .i64 _) rfl du (At.cell (hq.at f) rfl)) hS <| To 8 rfl (TC (vs := [.agg #[_, _, _, _], .agg #[_, _, _, _], .int .i64 _]) PL (Ag (AA S o) (jq S o) S.n _) rfl fun a9 ba F aH => ⟨.inl (hS.trans F), ?_⟩)
 have aI := (Below.size hB)
 replace hB := Ze hB F
 replace f := F.at f
 replace d := F.mapT d
 replace ho := F.ow ho
 replace g := F.at g
 replace hS := hS.trans F
 obtain ⟨x_hP8_8, er_hP8_8, l_hP8_8, rfl, ho_hP8_8, hc_hP8_8⟩ := Fk aH
 replace ho_hP8_8 := dh.mono ho_hP8_8 aI
 refine Tw 9 (.tuple #[x_hP8_8, .int .i64 _]) rfl rfl hS <| Tk 10 rfl (fun _ _ => dG rfl) hS <| Tk 11 rfl (fun _ _ => dJ rfl) hS <| Tw 12 x_hP8_8 rfl rfl hS <| Ti 13 rfl rfl hS <| Td ?_
 obtain ⟨_, hleq⟩ := Il hc_hP8_8 (by intro h; exact h (by rcases hc_hP8_8 with ⟨_, h, _⟩ | ⟨h, _⟩; exact h; rw [qB hr O] at h; cases h))
 have hleq2 : l_hP8_8 = sL S o := hleq
 subst hleq2
 refine Zr <| Zw x_hP8_8 rfl <| Zv (dz (v := x_hP8_8) rfl ho_hP8_8.sl fh) <| Zw (.int .i64 0) rfl <| cT <| c9 ?_
 refine dy (σ := (Nat) × (Value)) [5, 11, 12, 13, 40, 41, 42, 43, 44, 45, 46, 47, 48, 49, 50, 51, 52, 53, 54, 55, 56, 57, 58, 59, 60, 61, 62, 63] (fun (i, v1) => [(40, .int .i64 (i : Int)), (5, v1)]) (fun sg W => match sg with | (i, v1) => (Below w.heap.size w W) ∧ (At W aj _ 24) ∧ (At W ar _ 49) ∧ (dh ik 2 40 W w.heap.size x_hP8_8 _) ∧ (dT rc Value.bool W E (fx (E5 S o (DA S o) i))) ∧ (dh fJ 3 42 W w.heap.size v1 (E5 S o (DA S o) i)) ∧ (i ≤ (sL S o).length) ∧ (True)) (fun (i, v1) => (sL S o).length - i) ((0, v0)) ⟨rfl, rfl, trivial⟩ ⟨hB, f, g, ho_hP8_8, d, (by exact ho), (Nat.zero_le _), trivial⟩ ?_
 clear hB f d ho g ho_hP8_8
 rintro ⟨i, v1⟩ bb bc ⟨hB, f, g, ho_hP8_8, d, hoo2, hi, _⟩ bd Z
 refine Zr <| Zv (dM rfl rfl) <| cT <| cY fun bf aJ => ZQ rfl (fun aK => ?_) fun aK => ?_
 refine c7 <| aJ _ _ <| cY fun bg aa => c9 ?_
 have hi2 : i < (sL S o).length := by omega
 have hgg := Gb hr O hi2
 have hcl := zH S o (DA S o) i
 refine Zr <| Zv (dF (v := x_hP8_8) rfl ho_hP8_8.sl rfl fh Om Ol80_0) <| Zv (iy rfl dQ (dN.cell ho_hP8_8.sl gt ⟨0, 0⟩ Om Ol80_0 0 rfl) (dN.cell ho_hP8_8.sl gt ⟨0, 0⟩ Om Ol80_0 1 rfl)) <| Zy (dt jl rfl fun aL bh ag M p => ?_)
 have aM := ZO ag hB
 have aN := dh.neB (b := aL) ho_hP8_8 (Nat.le_of_eq ag.symm)
 clear ag
 replace hB := Ze hB M
 replace f := M.at f
 replace g := M.at g
 replace ho_hP8_8 := M.ow ho_hP8_8
 replace d := M.mapT d
 replace hoo2 := M.ow hoo2
 refine Zy (dg rfl rfl dQ rfl p rfl rfl fun bi N aO => ?_)
 replace hB := Zg hB N aM
 replace f := At.grownAt f p N Dd
 replace g := At.grownAt g p N Dd
 replace ho_hP8_8 := dh.grownAtNe ho_hP8_8 aN N
 replace d := dT.grownAt d p N
 replace hoo2 := dh.grownAt hoo2 p N Dd
 replace p := aO
 refine cT <| Zd ep fun aP G => ?_
 replace hB := Ze hB G
 replace f := G.at f
 replace g := G.at g
 replace ho_hP8_8 := G.ow ho_hP8_8
 replace d := G.mapT d
 replace hoo2 := G.ow hoo2
 replace p := G.at p
 have hS := ep.refl aP
 refine Tk 0 rfl (fun _ hq => db rfl ez rfl (hq.at f)) hS <| Tk 1 rfl (fun _ hq => db rfl dQ rfl (hq.at p)) hS <| Ti 2 rfl rfl hS <| Tk 3 rfl (fun _ _ => jU (m := 1) rfl rfl Om (by simp only [IntKind.bits]; omega) (by simp only [d8, Int.toNat_natCast, Nat.one_mul]; omega)) hS <| Tk 4 rfl (fun _ _ => kN (h0 := rfl) (h1 := rfl) (k1 := rfl) (c1_0 := .int .u8 _)) hS ?_
 refine IO 5 9 (by kernel_rfl) rfl rfl rfl rfl rfl rfl rfl rfl (Yd.call (uQ IJ (v0 := .agg #[_, _, _]) rfl (v1 := .agg #[_, _, _]) rfl) (sI S _ _ ⟨((sL S o).getD i ⟨0, 0⟩), 1 * 2 ^ o⟩ _ (Below.slT hB hon) (Below.slT hB hmay) ⟨hgg.1, hgg.2, (by show 1 * 2 ^ o < 256; omega)⟩) (fun aQ bj s Q => ⟨.inl (hS.trans s), ?_⟩)) (dt lk rfl (fun H bk ab t l => ⟨.inl (hS.trans t), ?_⟩))
 replace hB := Ze hB s
 replace f := s.at f
 replace g := s.at g
 replace ho_hP8_8 := s.ow ho_hP8_8
 replace d := s.mapT d
 replace hoo2 := s.ow hoo2
 replace p := s.at p
 replace hS := hS.trans s
 rw [Nat.one_mul, if_pos (wb hr O hi2)] at Q
 obtain rfl := Q
 refine Tw 6 (.tuple #[.agg #[_, _, _], .int .i64 _]) rfl rfl hS <| Tk 7 rfl (fun _ _ => dG rfl) hS <| Tk 8 rfl (fun _ _ => dJ rfl) hS <| To 9 rfl (dt lk rfl fun H bl ac y l => ⟨.inl (hS.trans y), ?_⟩)
 have ah := ZO ac hB
 have R := Nat.le_trans (ep.size hS) (Nat.le_of_eq ac.symm)
 have T := dh.neB (b := H) hoo2 (Nat.le_of_eq ac.symm)
 clear ac
 replace hB := Ze hB y
 replace f := y.at f
 replace g := y.at g
 replace ho_hP8_8 := y.ow ho_hP8_8
 replace d := y.mapT d
 replace hoo2 := y.ow hoo2
 replace p := y.at p
 replace hS := hS.trans y
 refine To 10 rfl (dg rfl rfl ex rfl l rfl rfl fun bm z aR => ⟨.inl (dA hS z (Nat.le_refl _) (fun j hj => by have e : H = j := Option.some.inj hj; rw [← e]; exact R)), ?_⟩)
 replace hS : ep _ _ := dA hS z (Nat.le_refl _) (fun j hj => by have e : H = j := Option.some.inj hj; rw [← e]; exact R)
 replace hB := Zg hB z ah
 replace f := At.grownAt f l z Dd
 replace g := At.grownAt g l z Dd
 replace ho_hP8_8 := dh.grownAt ho_hP8_8 l z Dd
 replace d := dT.grownAt d l z
 replace hoo2 := dh.grownAtNe hoo2 T z
 replace p := At.grownAt p l z Dd
 replace l := aR
 refine Ti 11 rfl rfl hS <| Td <| Zr <| Zw (.map (some E)) rfl <| Zv (db rfl ex rfl l) <| Zv (fV (enc := rc) (encV := Value.bool) (v0 := false) (k := (rH S o i)) rfl rfl vA te (fun a => ⟨a, rfl⟩) sJ ph rfl d) <| Zv (eX rfl) <| cT <| ZQ rfl (fun q => ?_) fun q => ?_
 refine Zr <| Zw (.map (some E)) rfl <| Zv (db rfl ex rfl l) ?_
 refine g7 (dd := none) rfl rfl rfl (fL (enc := rc) (encV := Value.bool) (k := (rH S o i)) (v := true) rfl rfl rfl vA te (fun a => ⟨a, rfl⟩) sJ d (fun bn I aS => ?_))
 replace hB := Zg hB I aq
 replace f := At.grownMap f d I
 replace g := At.grownMap g d I
 replace ho_hP8_8 := dh.grownMap ho_hP8_8 d I
 replace hoo2 := dh.grownMap hoo2 d I
 replace p := At.grownMap p d I
 replace l := At.grownMap l d I
 replace d := aS
 rw [jz] at d
 refine cT <| cZ <| Zw v1 rfl <| Zv (db rfl ex rfl l) <| Zy (ff (u := .agg #[_, _, _]) rfl dL g6 rfl Dd Dd fun U bo ad C ai => ?_)
 have aT := ZO ad hB
 have aU := dh.neB (b := U) hoo2 (Nat.le_of_eq ad.symm)
 have aV := Zn ad l.lt
 clear ad
 replace hB := Ze hB C
 replace f := C.at f
 replace g := C.at g
 replace ho_hP8_8 := C.ow ho_hP8_8
 replace d := C.mapT d
 replace hoo2 := C.ow hoo2
 replace p := C.at p
 replace l := C.at l
 refine Zy (eC (v := v1) (v2 := .slice (some ⟨U, 0, none⟩) 1 1) rfl rfl dL g6 Dd hoo2 (fF ai rfl) rfl (by have := Below.size hB; omega) (by first | omega | (simp; omega) | (simp only [cV, cW, cX, da, de]; omega)) (by first | omega | (simp; omega) | (simp only [cV, cW, cX, da, de]; omega)) fun V bp J A => ?_)
 replace A := dh.snoc (enc := fJ) (x := (rH S o i)) rfl rfl rfl rfl A
 replace hB := ZG hB J hoo2
 replace f := At.grownOw f hoo2 J Dd
 replace g := At.grownOw g hoo2 J Dd
 replace ho_hP8_8 := dh.grownOw ho_hP8_8 hoo2 J Dd
 replace d := dT.grownOw d hoo2 J
 replace p := At.grownOw p hoo2 J Dd
 replace l := At.grownOwNe l T J
 clear hoo2
 refine Zw V rfl <| cT <| aa _ _ <| cZ <| Zv (dm rfl rfl Om Om) <| Zi rfl <| cT ?_
 exact Z _ _ ((i + 1, V)) Za ⟨rfl, rfl, trivial⟩ ⟨hB, f, g, ho_hP8_8, (by first | exact d | (rw [← np (pF (kk := rH S o i) q)]; exact d)), (by first | (rw [← vl (vj (kk := rH S o i) q)]; exact A) | (rw [← np (pF (kk := rH S o i) q)]; exact A)), Om, trivial⟩ (by show (sL S o).length - (i + 1) < (sL S o).length - i; omega)
 refine c7 <| aa _ _ <| cZ <| Zv (dm rfl rfl Om Om) <| Zi rfl <| cT ?_
 exact Z _ _ ((i + 1, v1)) Za ⟨rfl, rfl, trivial⟩ ⟨hB, f, g, ho_hP8_8, (by first | exact d | (rw [← np (pF (kk := rH S o i) q)]; exact d)), (by first | (rw [← vl (vj (kk := rH S o i) q)]; exact hoo2) | (rw [← np (pF (kk := rH S o i) q)]; exact hoo2)), Om, trivial⟩ (by show (sL S o).length - (i + 1) < (sL S o).length - i; omega)
 have ah := ZO ab hB
 have R := Nat.le_trans (ep.size hS) (Nat.le_of_eq ab.symm)
 have T := dh.neB (b := H) hoo2 (Nat.le_of_eq ab.symm)
 clear ab
 replace hB := Ze hB t
 replace f := t.at f
 replace g := t.at g
 replace ho_hP8_8 := t.ow ho_hP8_8
 replace d := t.mapT d
 replace hoo2 := t.ow hoo2
 replace p := t.at p
 replace hS := hS.trans t
 refine To 5 rfl (TC (vs := [.agg #[_, _, _], .agg #[_, _, _]]) IJ (sI S _ _ ⟨((sL S o).getD i ⟨0, 0⟩), 1 * 2 ^ o⟩ _ (Below.slT hB hon) (Below.slT hB hmay) ⟨hgg.1, hgg.2, (by show 1 * 2 ^ o < 256; omega)⟩) rfl fun aQ bq r Q => ⟨.inl (hS.trans r), ?_⟩)
 replace hB := Ze hB r
 replace f := r.at f
 replace g := r.at g
 replace ho_hP8_8 := r.ow ho_hP8_8
 replace d := r.mapT d
 replace hoo2 := r.ow hoo2
 replace p := r.at p
 replace l := r.at l
 replace hS := hS.trans r
 rw [Nat.one_mul, if_pos (wb hr O hi2)] at Q
 obtain rfl := Q
 refine Tw 6 (.tuple #[.agg #[_, _, _], .int .i64 _]) rfl rfl hS <| Tk 7 rfl (fun _ _ => dG rfl) hS <| Tk 8 rfl (fun _ _ => dJ rfl) hS <| To 10 rfl (dg rfl rfl ex rfl l rfl rfl fun br B aW => ⟨.inl (dA hS B (Nat.le_refl _) (fun j hj => by have e : H = j := Option.some.inj hj; rw [← e]; exact R)), ?_⟩)
 replace hS : ep _ _ := dA hS B (Nat.le_refl _) (fun j hj => by have e : H = j := Option.some.inj hj; rw [← e]; exact R)
 replace hB := Zg hB B ah
 replace f := At.grownAt f l B Dd
 replace g := At.grownAt g l B Dd
 replace ho_hP8_8 := dh.grownAt ho_hP8_8 l B Dd
 replace d := dT.grownAt d l B
 replace hoo2 := dh.grownAtNe hoo2 T B
 replace p := At.grownAt p l B Dd
 replace l := aW
 refine Ti 11 rfl rfl hS <| Td <| Zr <| Zw (.map (some E)) rfl <| Zv (db rfl ex rfl l) <| Zv (fV (enc := rc) (encV := Value.bool) (v0 := false) (k := (rH S o i)) rfl rfl vA te (fun a => ⟨a, rfl⟩) sJ ph rfl d) <| Zv (eX rfl) <| cT <| ZQ rfl (fun q => ?_) fun q => ?_
 refine Zr <| Zw (.map (some E)) rfl <| Zv (db rfl ex rfl l) ?_
 refine g7 (dd := none) rfl rfl rfl (fL (enc := rc) (encV := Value.bool) (k := (rH S o i)) (v := true) rfl rfl rfl vA te (fun a => ⟨a, rfl⟩) sJ d (fun bs K aX => ?_))
 replace hB := Zg hB K aq
 replace f := At.grownMap f d K
 replace g := At.grownMap g d K
 replace ho_hP8_8 := dh.grownMap ho_hP8_8 d K
 replace hoo2 := dh.grownMap hoo2 d K
 replace p := At.grownMap p d K
 replace l := At.grownMap l d K
 replace d := aX
 rw [jz] at d
 refine cT <| cZ <| Zw v1 rfl <| Zv (db rfl ex rfl l) <| Zy (ff (u := .agg #[_, _, _]) rfl dL g6 rfl Dd Dd fun U bt ae D ai => ?_)
 have aT := ZO ae hB
 have aU := dh.neB (b := U) hoo2 (Nat.le_of_eq ae.symm)
 have aV := Zn ae l.lt
 clear ae
 replace hB := Ze hB D
 replace f := D.at f
 replace g := D.at g
 replace ho_hP8_8 := D.ow ho_hP8_8
 replace d := D.mapT d
 replace hoo2 := D.ow hoo2
 replace p := D.at p
 replace l := D.at l
 refine Zy (eC (v := v1) (v2 := .slice (some ⟨U, 0, none⟩) 1 1) rfl rfl dL g6 Dd hoo2 (fF ai rfl) rfl (by have := Below.size hB; omega) (by first | omega | (simp; omega) | (simp only [cV, cW, cX, da, de]; omega)) (by first | omega | (simp; omega) | (simp only [cV, cW, cX, da, de]; omega)) fun V bu L A => ?_)
 replace A := dh.snoc (enc := fJ) (x := (rH S o i)) rfl rfl rfl rfl A
 replace hB := ZG hB L hoo2
 replace f := At.grownOw f hoo2 L Dd
 replace g := At.grownOw g hoo2 L Dd
 replace ho_hP8_8 := dh.grownOw ho_hP8_8 hoo2 L Dd
 replace d := dT.grownOw d hoo2 L
 replace p := At.grownOw p hoo2 L Dd
 replace l := At.grownOwNe l T L
 clear hoo2
 refine Zw V rfl <| cT <| aa _ _ <| cZ <| Zv (dm rfl rfl Om Om) <| Zi rfl <| cT ?_
 exact Z _ _ ((i + 1, V)) Za ⟨rfl, rfl, trivial⟩ ⟨hB, f, g, ho_hP8_8, (by first | exact d | (rw [← np (pF (kk := rH S o i) q)]; exact d)), (by first | (rw [← vl (vj (kk := rH S o i) q)]; exact A) | (rw [← np (pF (kk := rH S o i) q)]; exact A)), Om, trivial⟩ (by show (sL S o).length - (i + 1) < (sL S o).length - i; omega)
 refine c7 <| aa _ _ <| cZ <| Zv (dm rfl rfl Om Om) <| Zi rfl <| cT ?_
 exact Z _ _ ((i + 1, v1)) Za ⟨rfl, rfl, trivial⟩ ⟨hB, f, g, ho_hP8_8, (by first | exact d | (rw [← np (pF (kk := rH S o i) q)]; exact d)), (by first | (rw [← vl (vj (kk := rH S o i) q)]; exact hoo2) | (rw [← np (pF (kk := rH S o i) q)]; exact hoo2)), Om, trivial⟩ (by show (sL S o).length - (i + 1) < (sL S o).length - i; omega)
 refine dr <| aC _ _ <| cZ <| Zv (dm rfl rfl Om Om) <| Zi rfl <| cT ?_
 exact az _ _ ((o + 1, v1)) Za ⟨rfl, rfl, trivial⟩ ⟨hB, f, (by rw [DA]; have e : i = (sL S o).length := Om; subst e; exact d), (by rw [DA]; have e : i = (sL S o).length := Om; subst e; exact hoo2), Om, trivial⟩ (by show S.on.length - (o + 1) < S.on.length - o; omega)
 refine dr <| ay _ _ <| Zr <| Zw v0 rfl <| Zw v0 rfl <| Zw (.int .i64 0) rfl <| cT <| Zt <| d6 (v := v0) rfl (v1 := .int .i64 0) rfl ⟨hB, ?_⟩
 obtain rfl : o = S.on.length := by omega
 rw [if_pos hr]
 exact ⟨_, rfl, ho⟩
end
section
open Go Go.RowKit
theorem Iz (S : Sp) (l : List Rw) : (ju S l).length ≤ l.length := yW S l l.length
theorem O7 {S : Sp} {l : List Rw} (h : gF l) : gF (ju S l) := Jv h _ (Nat.le_refl _)
end
section
open Go Go.RowKit
def xD (l : List Rw) (ks : List Int) : Nat → List Rw
 | 0 => []
 | k + 1 => if (k : Int) ∈ ks then xD l ks k ++ [l.getD k ⟨⟨0, 0⟩, 0⟩] else xD l ks k
theorem NA {l : List Rw} {ks : List Int} {k : Nat} (h : (k : Int) ∈ ks) : xD l ks k ++ [l.getD k ⟨⟨0, 0⟩, 0⟩] = xD l ks (k + 1) := (if_pos h).symm
theorem Nk {l : List Rw} {ks : List Int} {k : Nat} (h : ¬ (k : Int) ∈ ks) : xD l ks k = xD l ks (k + 1) := (if_neg h).symm
theorem uN (l : List Rw) (ks : List Int) : ∀ k, (xD l ks k).length = (k7 ks k).length
 | 0 => rfl
 | k + 1 => by
  rw [xD, jd]
  split
  ·rw [List.length_append, List.length_append, uN l ks k]; rfl
  ·exact uN l ks k
theorem KG (l : List Rw) (ks : List Int) (k : Nat) : (xD l ks k).length ≤ ks.length := by rw [uN]; exact Bk ks k
theorem ER (l : List Rw) (ks : List Int) (k : Nat) : (xD l ks k).length ≤ k := by rw [uN]; exact lW ks k
theorem x9 {l : List Rw} {m : Nat} (h : m < l.length) : l.take m ++ [l.getD m ⟨⟨0, 0⟩, 0⟩] = l.take (m + 1) := by
 rw [List.take_add_one, List.getD_eq_getElem?_getD, List.getElem?_eq_getElem h]; rfl
theorem Fj {l : List Rw} {ks : List Int} : ∀ k, k ≤ l.length → (xD l ks k).Sublist (l.take k)
 | 0, _ => by simp [xD]
 | k + 1, hk => by
  have ih := Fj (l := l) (ks := ks) k (by omega)
  rw [xD, ← x9 (by omega : k < l.length)]
  split
  ·exact ih.append (List.Sublist.refl _)
  ·exact ih.trans (List.sublist_append_left _ _)
def OA (n : Nat) (ks : List Int) : List Bool := (List.range n).map fun c : Nat => decide ((c : Int) ∈ ks)
theorem Ff {n : Nat} {ks : List Int} {k : Nat} (h : k < n) : (OA n ks).getD k false = decide ((k : Int) ∈ ks) := by
 unfold OA
 rw [List.getD_eq_getElem?_getD, List.getElem?_map, List.getElem?_range h]
 rfl
theorem H7 {l : List Rw} {ks : List Int} : ∀ k, k ≤ l.length → xD l ks k = K1 l (OA l.length ks) k
 | 0, _ => rfl
 | k + 1, hk => by
  rw [xD, K1, H7 k (by omega), Ff (show k < l.length by omega)]
  simp only [decide_eq_true_eq]
theorem JY {n : Nat} {ks : List Int} : ∀ k, k ≤ n → Mp (OA n ks) k = k7 ks k
 | 0, _ => rfl
 | k + 1, hk => by
  rw [Mp, jd, JY k (by omega), Ff (show k < n by omega)]
  simp only [decide_eq_true_eq]
section
variable {S : Sp}
theorem qY (hr : dO S = true) (h4 : S.n ≤ 4) (h3 : S.on.length ≤ 3) : (eK S).length ≤ 2048 := by
 obtain ⟨h0, h8, _, _, h5, _⟩ := d9.1 hr
 have hn : (eK S).Nodup := (oW S _).imp fun h e => by rw [e, vM] at h; cases h
 have h := tU (b := (List.range 2048).map fun q => (⟨⟨q % 16, q / 16 % 16⟩, q / 256⟩ : Rw)) hn fun x hx => ?_
 ·simpa using h
 ·have hp := (fH.1 ((oa hr).1 hx))
  have ho := (oH hp.1).1
  have hrt := gz hp.1
  obtain ⟨r1, r2, r3, r4⟩ := d4.1 hrt
  have hp3 : 2 ^ S.may.length ≤ 2 ^ 3 := Nat.pow_le_pow_right (by decide) (by omega)
  have hp4 : 2 ^ S.n.toNat ≤ 2 ^ 4 := Nat.pow_le_pow_right (by decide) (by omega)
  have hm : x.c.m < 16 := by omega
  have hvm : x.c.v ≤ x.c.m := by rw [← r4]; exact Nat.and_le_right
  have hv : x.c.v < 16 := by omega
  refine List.mem_map.2 ⟨x.c.m + 16 * x.c.v + 256 * x.o, List.mem_range.2 (by omega), ?_⟩
  have e1 : (x.c.m + 16 * x.c.v + 256 * x.o) % 16 = x.c.m := by omega
  have e2 : (x.c.m + 16 * x.c.v + 256 * x.o) / 16 % 16 = x.c.v := by omega
  have e3 : (x.c.m + 16 * x.c.v + 256 * x.o) / 256 = x.o := by omega
  rw [e1, e2, e3]
theorem vg (hr : dO S = true) : ∀ q, q < (eK S).length → qb S ((eK S).getD q ⟨⟨0, 0⟩, 0⟩) = true := fun q hq => (fH.1 (oS hr hq)).1
theorem Dy (hr : dO S = true) (hl : (eK S).length ≤ 4000) {ks : List Int} (h : mD (lQ S (eK S)) ks) : gW S (xD (eK S) ks (eK S).length) = true := by
 rw [H7 _ (Nat.le_refl _)]
 have hm := Ns (bs := OA (eK S).length ks) hr (vg hr) hl (Nat.le_refl _)
 have hs : oT (lQ S (eK S)) (Mp (OA (eK S).length ks) (eK S).length) = true := by
  rw [JY _ (Nat.le_refl _)]
  have := qC (kc (S := S) hl) h
  rw [Int.toNat_natCast] at this
  exact EH.2 this
 rw [kc hl, hs] at hm
 exact hm.symm
theorem MG (hr : dO S = true) (hl : (eK S).length ≤ 4000) : mD (lQ S (eK S)) (Pn (eK S).length) := by
 have hm := Ns (bs := OA (eK S).length (Pn (eK S).length)) hr (vg hr) hl (Nat.le_refl _)
 have e : xD (eK S) (Pn (eK S).length) (eK S).length = eK S := by
  have key : ∀ k, k ≤ (eK S).length → xD (eK S) (Pn (eK S).length) k = (eK S).take k := by
   intro k
   induction k with
   | zero => intro _; simp [xD]
   | succ k ih =>
    intro hk
    rw [xD, if_pos (MM.2 ⟨by omega, by omega⟩), ih (by omega), x9 (by omega)]
  rw [key _ (Nat.le_refl _), List.take_length]
 rw [← H7 _ (Nat.le_refl _), e, JY _ (Nat.le_refl _), F4 hr, kc hl, Bool.true_and] at hm
 have h2 : oT (lQ S (eK S)) (k7 (Pn (eK S).length) (eK S).length) = true := hm
 exact wq (EH.1 h2) fun c hc => (pB.1 hc).1
theorem LK {L : ML} {X : List Int} (h : mD L X) : jk L L.length = true := IU.2 fun i hi => by
 obtain ⟨c, h1, _⟩ := h _ (dV (d := []) hi)
 exact List.length_pos_of_mem h1
theorem Og (hr : dO S = true) {Z : List Rw} (h : gW S Z = true) {i : Nat} (hi : i < Z.length) : qb S (Z.getD i ⟨⟨0, 0⟩, 0⟩) = true := by
 obtain ⟨_, hm, hc⟩ := gr.1 h
 obtain ⟨h0, h8, h1, h4, h5, hin⟩ := d9.1 hr
 have hok := jo.1 (kP.1 hm i hi)
 refine gE.2 ⟨hr, hok.2.1, fun j hj => ?_⟩
 have hjl : j < S.on.length := by
  rcases Nat.lt_or_ge j S.on.length with k | k
  ·exact k
  ·have := f7.1 hok.2.2 j k
   rw [hj] at this; cases this
 refine ⟨by omega, gm.2 ⟨hok.1, fun p hp hh => ?_⟩⟩
 refine ((jW hr hm hjl).1 (hc j hjl) p hp).2 (sP.2 ⟨i, hi, ?_⟩)
 rw [hj, Bool.true_and]
 unfold pN
 rw [decide_eq_true_eq, (d4.1 hok.1).2.2.2]
 exact hh
theorem MJ (hr : dO S = true) {Z : List Rw} (h : gW S Z = true) : ∃ Y : List Int, Y.Nodup ∧ mD (lQ S (eK S)) Y ∧ Y.length ≤ Z.length := by
 obtain ⟨_, hm, hc⟩ := gr.1 h
 have place : ∀ z, ∃ c : Nat, z ∈ Z → qb S z = true → c < (eK S).length ∧ rM ((eK S).getD c ⟨⟨0, 0⟩, 0⟩) z = true := fun z => by
  by_cases hz : qb S z = true
  ·obtain ⟨j, h1, h2⟩ := (qZ _).1 (FK hz)
   exact ⟨j, fun _ _ => ⟨h1, h2⟩⟩
  ·exact ⟨0, fun _ k => absurd k hz⟩
 let idx : Rw → Int := fun z => ((Classical.choose (place z) : Nat) : Int)
 have hidx : ∀ z, z ∈ Z → qb S z = true → ∃ c : Nat, idx z = (c : Int) ∧ c < (eK S).length ∧ rM ((eK S).getD c ⟨⟨0, 0⟩, 0⟩) z = true := fun z h1 h2 => ⟨_, rfl, Classical.choose_spec (place z) h1 h2⟩
 have fold : ∀ (l : List Rw) (acc : List Int), acc.Nodup → ((l.foldl (fun a z => iI a (idx z)) acc).Nodup ∧ (l.foldl (fun a z => iI a (idx z)) acc).length ≤ acc.length + l.length ∧ ∀ x, x ∈ acc ∨ (∃ z, z ∈ l ∧ x = idx z) → x ∈ l.foldl (fun a z => iI a (idx z)) acc) := by
  intro l
  induction l with
  | nil => intro acc ha; exact ⟨ha, by simp, fun x hx => hx.elim id fun ⟨z, hz, _⟩ => by cases hz⟩
  | cons z l ih =>
   intro acc ha
   obtain ⟨i1, i2, i3⟩ := ih (iI acc (idx z)) (jt ha _)
   have hl := qp acc (idx z)
   refine ⟨i1, ?_, fun x hx => i3 x ?_⟩
   ·rw [List.foldl_cons, List.length_cons]; omega
   ·rcases hx with hx | ⟨y, hy, e⟩
    ·exact .inl (gv.2 (.inl hx))
    ·rcases List.mem_cons.1 hy with q | q
     ·rw [q] at e; exact .inl (gv.2 (.inr e))
     ·exact .inr ⟨y, q, e⟩
 obtain ⟨f1, f2, f3⟩ := fold Z [] List.nodup_nil
 refine ⟨_, f1, fun r hr2 => ?_, by simpa using f2⟩
 obtain ⟨q, hq, j, hj, e⟩ := (ob _).1 (mz.1 hr2)
 obtain ⟨p, hp, hpb, hpe⟩ := lp hj
 rw [hpe, Int.toNat_natCast] at e
 have hpn : p < 2 ^ S.n.toNat := NL hr hq hpb hp
 obtain ⟨i, hi, hb⟩ := sP.1 (((jW hr hm hq).1 (hc q hq) p hpn).1 hpb)
 rw [Bool.and_eq_true] at hb
 have hz : Z.getD i ⟨⟨0, 0⟩, 0⟩ ∈ Z := dV hi
 have hin : qb S (Z.getD i ⟨⟨0, 0⟩, 0⟩) = true := Og hr h hi
 obtain ⟨c, h1, h2, h3⟩ := hidx _ hz hin
 obtain ⟨h4, h5⟩ := oY.1 h3
 refine ⟨(c : Int), ?_, f3 _ (.inr ⟨_, hz, h1.symm⟩)⟩
 rw [e]
 refine oy.2 ⟨c, rfl, h2, ?_⟩
 unfold He
 rw [h5 q hb.1, Bool.true_and]
 have hv1 := (d4.1 (gz hin)).2.2.2
 have hv2 := (d4.1 (gz (vg hr c h2))).2.2.2
 have hp1 := of_decide_eq_true hb.2
 rw [hv1] at hp1
 unfold pN
 rw [decide_eq_true_eq, hv2]
 exact lH hv2 h4 hp1
end
structure Kn (S : Sp) (R : List Rw) : Prop where
 cov : gW S R = true
 sub : R.Sublist (eK S)
 min : ∀ Z, gW S Z = true → R.length ≤ Z.length
theorem Mq {S : Sp} {L : ML} {T X ks : List Int} (hr : dO S = true) (hl : (eK S).length ≤ 4000) (h : l4 (lQ S (eK S)) L T) (k : My L ((eK S).length : Int) X) (hk : ∀ c, c ∈ ks ↔ c ∈ T ++ X) (hn : ks.Nodup) : Kn S (xD (eK S) ks (eK S).length) := by
 obtain ⟨h1, h2⟩ := My.both h k
 refine ⟨Dy hr hl (wq h1 fun c hc => (hk c).2 hc), ?_, fun Z hZ => ?_⟩
 ·have := Fj (l := eK S) (ks := ks) _ (Nat.le_refl _)
  rwa [List.take_length] at this
 ·obtain ⟨Y, y1, y2, y3⟩ := MJ hr hZ
  have := h2 Y y1 y2
  have h3 := KG (eK S) ks (eK S).length
  have h4 := tU hn fun c hc => (hk c).1 hc
  omega
def kd (l R : List Rw) : Nat → Nat
 | 0 => 0
 | i + 1 => if kd l R i < R.length ∧ l.getD i ⟨⟨0, 0⟩, 0⟩ = R.getD (kd l R i) ⟨⟨0, 0⟩, 0⟩ then kd l R i + 1 else kd l R i
theorem Am (l R : List Rw) : ∀ i, kd l R i ≤ R.length
 | 0 => Nat.zero_le _
 | i + 1 => by
  rw [kd]
  split
  ·omega
  ·exact Am l R i
theorem AO {l R : List Rw} (h : R.Sublist l) : ∀ i, i ≤ l.length → (R.drop (kd l R i)).Sublist (l.drop i)
 | 0, _ => by simpa [kd] using h
 | i + 1, hi => by
  have ih := AO h i (by omega)
  have e : l.drop i = l.getD i ⟨⟨0, 0⟩, 0⟩ :: l.drop (i + 1) := by
   rw [List.getD_eq_getElem?_getD, List.getElem?_eq_getElem (show i < l.length by omega)]
   exact List.drop_eq_getElem_cons (by omega)
  rw [e] at ih
  rw [kd]
  by_cases hlt : kd l R i < R.length
  ·have e2 : R.drop (kd l R i) = R.getD (kd l R i) ⟨⟨0, 0⟩, 0⟩ :: R.drop (kd l R i + 1) := by
    rw [List.getD_eq_getElem?_getD, List.getElem?_eq_getElem hlt]
    exact List.drop_eq_getElem_cons hlt
   rw [e2] at ih
   split
   ·rename_i hc
    rw [hc.2] at ih
    exact List.Sublist.of_cons_cons ih
   ·rename_i hc
    rw [e2]
    rcases List.sublist_cons_iff.1 ih with k | ⟨r, hr, _⟩
    ·exact k
    ·exact absurd ⟨hlt, (List.cons.inj hr).1.symm⟩ hc
  ·rw [if_neg fun k => hlt k.1, List.drop_of_length_le (by omega)]
   exact List.nil_sublist _
theorem Kd {l R : List Rw} (h : R.Sublist l) : kd l R l.length = R.length := by
 have h1 := AO h l.length (Nat.le_refl _)
 rw [List.drop_length, List.sublist_nil, List.drop_eq_nil_iff] at h1
 have := Am l R l.length
 omega
end
end Go.Proofs.YteimkklmmanncaaGreat
