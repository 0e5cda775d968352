/- Scopes and labels that nothing jumps to; a row of three closures. The walk of the making smaller, step after step. What the search's small helps come to, without the program. The walks of the search's small helps. The walk of one covering, greedily. Operations of a region that may come in any order, -/
import Derived.Test.YteimkklmmanncaaGreatZ8
import Derived.Scope
namespace Go.Proofs.YteimkklmmanncaaGreat
set_option linter.unusedVariables false
set_option linter.unusedSimpArgs false
section
open Go Go.RowKit
def JJ (Q : Exit → (Nat → Value) → World → Prop) : Exit → (Nat → Value) → World → Prop
 | .goto _ => fun _ _ => False
 | e => Q e
section
variable {P : Program} {n : Nat} {Q Q' : Exit → (Nat → Value) → World → Prop} {f : Nat → Value} {w : World}
theorem Al {c : Code} (h : WC P n c (JJ Q) f w) : WC P n (.scope c) Q f w := by
 refine ⟨fun a ha => wp_scope_straight (Code.wp_mono (fun e a' w' hq => ?_) (h.out a ha))⟩
 obtain ⟨f', hr, hq⟩ := hq
 cases e with
 | goto l => exact hq.elim
 | _ => exact ⟨f', hr, hq⟩
theorem AM {l : Nat} (h : Q .normal f w) : WC P n (.label l) Q f w := ⟨fun _ ha => wp_label ⟨f, ha, h⟩⟩
instance retQ_scope [h : BL Q Q'] : BL (JJ Q) Q' := ⟨fun f w q => h.out f w q⟩
end
theorem KV {P : Program} {f : Nat → Value} {w : World} {t u s k b : Nat} {T T' : TypeId} {c : Array Value} {v v2 : Value} {Post : Value → World → Prop} (h : f t = v) (h1 : f u = .pointer (some ⟨b, 0, none⟩)) (hT : kY P T = some k) (hm : At w b c T') (hk : k = c.size) (h2 : f s = v2) (hp : Post (.tuple #[v, .agg c, v2]) w) : mK P #[.tmp t, .cell u T, .tmp s] Post .ret f w := by
 refine ⟨_, fun tmps fn ht hr => ?_, hp⟩
 have e := ht t
 have e1 := ht u
 have e2 := ht s
 rw [h] at e
 rw [h1] at e1
 rw [h2] at e2
 have hl := lW (hk ▸ hT) hm
 simp only [Array.getD_eq_getD_getElem?] at e e1 e2
 simp [results, hr, e, e1, e2, asAddr, hl]
def Pf (bm bt q1 q2 q3 : Nat) : List Value := [.func (.func q1) #[] #[.pointer (some ⟨bm, 0, none⟩), .pointer (some ⟨bt, 0, none⟩)], .func (.func q2) #[] #[.pointer (some ⟨bm, 0, none⟩)], .func (.func q3) #[] #[.pointer (some ⟨bm, 0, none⟩)]]
def Qp (q1 q2 q3 : Nat) : Nat → Nat
 | 0 => q1
 | 1 => q2
 | _ => q3
def Qn (bm bt : Nat) : Nat → Array Value
 | 0 => #[.pointer (some ⟨bm, 0, none⟩), .pointer (some ⟨bt, 0, none⟩)]
 | _ => #[.pointer (some ⟨bm, 0, none⟩)]
theorem LG {bm bt q1 q2 q3 i : Nat} (hi : i < 3) : (Pf bm bt q1 q2 q3).getD i undef = .func (.func (Qp q1 q2 q3 i)) #[] (Qn bm bt i) := by
 match i, hi with
 | 0, _ => rfl
 | 1, _ => rfl
 | 2, _ => rfl
theorem Q2 {P : Program} {q1 q2 q3 i : Nat} (h1 : dC P q1 = true) (h2 : dC P q2 = true) (h3 : dC P q3 = true) : dC P (Qp q1 q2 q3 i) = true := by
 match i with
 | 0 => exact h1
 | 1 => exact h2
 | _ + 2 => exact h3
end
section
open Go Go.RowKit
theorem Nz : dC Tryz.prog 74 = true := by kernel_rfl
theorem yQ : fp Tryz.prog 85 = true := by kernel_rfl
theorem na : lK Tryz.prog 85 = some (3, 4) := by kernel_rfl
theorem Ov : dC Tryz.prog 76 = true := by kernel_rfl
theorem MK : dC Tryz.prog 78 = true := by kernel_rfl
theorem OS : eL Tryz.prog 85 = some (.map none) := by kernel_rfl
theorem wG : fO Tryz.prog 118 = some (28, 1, 8) := by kernel_rfl
theorem Lv : (eL Tryz.prog 28).map (fun z => z.cells.size) = some 1 := by kernel_rfl
theorem J1 : fp Tryz.prog 28 = true := by kernel_rfl
theorem OR : dC Tryz.prog 73 = true := by kernel_rfl
theorem NK : dC Tryz.prog 75 = true := by kernel_rfl
theorem Nk : dC Tryz.prog 77 = true := by kernel_rfl
theorem sv (N bm bt bk b3 : Nat) (n : Int) (xs rv : Value) (fs vs : List Value) (L0 L : ML) (ks : List Int) (w : World) (hN0 : N ≤ w.heap.size) (hm : At w bm #[.int .i64 n, rv] 77) (hrv : dh encV 1 80 w 0 rv vs) (hLO : LO 3 0 w vs L) (hr : dX n L = true) (hLb : L.length ≤ 1000000) (hrd : lD L0 L ks) (h3 : At w b3 #[.int .i64 0, .slice none 0 0] 77) (hbt : At w bt #[.map (some bk)] 85) (hst : dh encV 1 28 w N xs fs) (hks : dR eK Value.bool w bk (ft ks)) (lom : N ≤ bm) (lok : N ≤ bk) (hne : b3 ≠ bm) :
    qJ Tryz.prog 73 #[.pointer (some ⟨bm, 0, none⟩), .pointer (some ⟨bt, 0, none⟩)] w fun v w' => Below N w w' ∧ At w' b3 #[.int .i64 0, .slice none 0 0] 77 ∧ At w' bt #[.map (some bk)] 85 ∧ dh encV 1 28 w' N xs fs ∧ ∃ rv' vs' L' ks' b, v = .bool b ∧ At w' bm #[.int .i64 n, rv'] 77 ∧ dh encV 1 80 w' 0 rv' vs' ∧ LO 3 0 w' vs' L' ∧ dR eK Value.bool w' bk (ft ks') ∧ Mg L0 L' L ks' n b := by
 refine eX (n := 17) Tryz.func73 rfl rfl (Nat.le_of_ble_eq_true rfl) ?_
 have hB : Below N w w := Below.refl _ _
 refine Zr <| Zw (.bool false) rfl <| cT <| Zr <| Zv (db rfl dH rfl hm) <| ZC (vs := [.agg #[_, _]]) Nz (wZ n rv vs L _ hrv hLO hr hLb) rfl fun z W5 i q => ?_
 replace hm := i.at hm
 replace hrv := i.ow hrv
 replace hLO := LO.ext i hLO
 replace h3 := i.at h3
 replace hbt := i.at hbt
 replace hst := i.ow hst
 replace hks := i.mapT hks
 replace hB := dF hB i hN0
 obtain ⟨rv1_1, A, L1_1, c1_1, h, rfl, hk1_1, hLO1_1, htp1_1⟩ := q
 refine Zw (.tuple #[.agg #[.int .i64 _, rv1_1], .int .i64 c1_1, .bool h]) rfl <| Zv (mz rfl) <| Zv (sF rfl) <| Zv (sN rfl) <| Zy (dt ia rfl fun r W8 l f c => ?_)
 have s : N ≤ r := l ▸ (Nat.le_trans hN0 (Below.size hB))
 have o := Zn l hm.lt
 have t := Zn l h3.lt
 clear l
 replace hm := f.at hm
 replace hrv := f.ow hrv
 replace hLO := LO.ext f hLO
 replace h3 := f.at h3
 replace hbt := f.at hbt
 replace hst := f.ow hst
 replace hks := f.mapT hks
 replace hB := dF hB f hN0
 replace hk1_1 := f.ow hk1_1
 replace hLO1_1 := LO.ext f hLO1_1
 refine Zy (dg rfl rfl dH rfl c rfl (by exact ib (dh.one hk1_1)) fun B g u => ?_)
 replace hm := At.grownNe hm o g
 replace hrv := dh.grownAt hrv c g Dd
 replace hLO := LO.grownAt hLO c g Dd
 replace h3 := At.grownNe h3 t g
 replace hbt := At.grownAt hbt c g Dd
 replace hst := dh.grownAt hst c g Dd
 replace hks := dR.grownAt hks c g
 replace hB := dy hB g hN0 (fun j hj => by cases hj; exact s)
 replace hk1_1 := dh.grownAt hk1_1 c g Dd
 replace hLO1_1 := LO.grownAt hLO1_1 c g Dd
 replace c := u
 refine Zw (.int .i64 c1_1) rfl <| Zw (.bool h) rfl <| cT <| cY fun C p => Zr <| Zv (db rfl dH rfl c) <| Zy (dg rfl rfl dH rfl hm rfl (by exact ib (dh.one hk1_1)) fun D d x => ?_)
 replace hrv := dh.grownAt hrv hm d Dd
 replace hLO := LO.grownAt hLO hm d Dd
 replace h3 := At.grownNe h3 hne d
 replace hbt := At.grownAt hbt hm d Dd
 replace hst := dh.grownAt hst hm d Dd
 replace hks := dR.grownAt hks hm d
 replace hB := dy hB d hN0 (fun j hj => by cases hj; exact lom)
 replace hk1_1 := dh.grownAt hk1_1 hm d Dd
 replace hLO1_1 := LO.grownAt hLO1_1 hm d Dd
 replace c := At.grownNe c (Ne.symm o) d
 clear d hm
 replace hm := x
 refine cT <| Zr <| Zw (.bool h) rfl <| cT <| ZQ rfl (fun m => ?_) fun m => ?_
 refine cZ <| ZL (.map (some bk)) rfl yQ hbt rfl <| Zw (.int .i64 c1_1) rfl ?_
 refine gS (dd := none) rfl rfl rfl (fI (enc := eK) (encV := Value.bool) (k := c1_1) (v := true) rfl rfl rfl na gI (fun a => ⟨a, rfl⟩) fS hks (fun E e y => ?_))
 replace hm := At.grownMap hm hks e
 replace hrv := dh.grownMap hrv hks e
 replace hLO := LO.grownMap hLO hks e
 replace h3 := At.grownMap h3 hks e
 replace hbt := At.grownMap hbt hks e
 replace hst := dh.grownMap hst hks e
 replace hB := dy hB e hN0 (fun j hj => by cases hj; exact lok)
 replace hk1_1 := dh.grownMap hk1_1 hks e
 replace hLO1_1 := LO.grownMap hLO1_1 hks e
 replace c := At.grownMap c hks e
 clear e hks
 replace hks := y
 rw [jj] at hks
 refine cT <| p _ _ <| Zr <| Zw (.bool h) rfl <| Zw (.bool h) rfl <| cT <| Zt <| dE (v := .bool h) rfl ?_
 subst m
 exact ⟨hB, h3, hbt, hst, _, _, _, _, _, rfl, hm, hk1_1, hLO1_1, hks, Ic hrd hr htp1_1⟩
 refine c9 <| p _ _ <| Zr <| Zw (.bool h) rfl <| Zw (.bool h) rfl <| cT <| Zt <| dE (v := .bool h) rfl ?_
 subst m
 exact ⟨hB, h3, hbt, hst, _, _, _, _, _, rfl, hm, hk1_1, hLO1_1, hks, FC hrd hr htp1_1⟩
theorem sM (N bm bt bk b3 : Nat) (n : Int) (xs rv : Value) (fs vs : List Value) (L0 L : ML) (ks : List Int) (w : World) (hN0 : N ≤ w.heap.size) (hm : At w bm #[.int .i64 n, rv] 77) (hrv : dh encV 1 80 w 0 rv vs) (hLO : LO 3 0 w vs L) (hr : dX n L = true) (hLb : L.length ≤ 1000000) (hrd : lD L0 L ks) (h3 : At w b3 #[.int .i64 0, .slice none 0 0] 77) (hbt : At w bt #[.map (some bk)] 85) (hst : dh encV 1 28 w N xs fs) (hks : dR eK Value.bool w bk (ft ks)) (lom : N ≤ bm) (lok : N ≤ bk) (hne : b3 ≠ bm) :
    qJ Tryz.prog 75 #[.pointer (some ⟨bm, 0, none⟩)] w fun v w' => Below N w w' ∧ At w' b3 #[.int .i64 0, .slice none 0 0] 77 ∧ At w' bt #[.map (some bk)] 85 ∧ dh encV 1 28 w' N xs fs ∧ ∃ rv' vs' L' ks' b, v = .bool b ∧ At w' bm #[.int .i64 n, rv'] 77 ∧ dh encV 1 80 w' 0 rv' vs' ∧ LO 3 0 w' vs' L' ∧ dR eK Value.bool w' bk (ft ks') ∧ Mg L0 L' L ks' n b := by
 refine eX (n := 11) Tryz.func75 rfl rfl (Nat.le_of_ble_eq_true rfl) ?_
 have hB : Below N w w := Below.refl _ _
 refine Zr <| Zw (.bool false) rfl <| cT <| Zr <| Zv (db rfl dH rfl hm) <| ZC (vs := [.agg #[_, _]]) Ov (xg n rv vs L _ hrv hLO hr hLb) rfl fun r W5 f k => ?_
 replace hm := f.at hm
 replace hrv := f.ow hrv
 replace hLO := LO.ext f hLO
 replace h3 := f.at h3
 replace hbt := f.at hbt
 replace hst := f.ow hst
 replace hks := f.mapT hks
 replace hB := dF hB f hN0
 obtain ⟨rv1_1, s, L1_1, g, rfl, hk1_1, hLO1_1, htp1_1⟩ := k
 refine Zw (.tuple #[.agg #[.int .i64 _, rv1_1], .bool g]) rfl <| Zv (dI rfl) <| Zv (dK rfl) <| Zy (dt ia rfl fun l W8 h d a => ?_)
 have m : N ≤ l := h ▸ (Nat.le_trans hN0 (Below.size hB))
 have i := Zn h hm.lt
 have o := Zn h h3.lt
 clear h
 replace hm := d.at hm
 replace hrv := d.ow hrv
 replace hLO := LO.ext d hLO
 replace h3 := d.at h3
 replace hbt := d.at hbt
 replace hst := d.ow hst
 replace hks := d.mapT hks
 replace hB := dF hB d hN0
 replace hk1_1 := d.ow hk1_1
 replace hLO1_1 := LO.ext d hLO1_1
 refine Zy (dg rfl rfl dH rfl a rfl (by exact ib (dh.one hk1_1)) fun t e p => ?_)
 replace hm := At.grownNe hm i e
 replace hrv := dh.grownAt hrv a e Dd
 replace hLO := LO.grownAt hLO a e Dd
 replace h3 := At.grownNe h3 o e
 replace hbt := At.grownAt hbt a e Dd
 replace hst := dh.grownAt hst a e Dd
 replace hks := dR.grownAt hks a e
 replace hB := dy hB e hN0 (fun j hj => by cases hj; exact m)
 replace hk1_1 := dh.grownAt hk1_1 a e Dd
 replace hLO1_1 := LO.grownAt hLO1_1 a e Dd
 replace a := p
 refine Zw (.bool g) rfl <| cT <| Zr <| Zv (db rfl dH rfl a) <| Zy (dg rfl rfl dH rfl hm rfl (by exact ib (dh.one hk1_1)) fun u c q => ?_)
 replace hrv := dh.grownAt hrv hm c Dd
 replace hLO := LO.grownAt hLO hm c Dd
 replace h3 := At.grownNe h3 hne c
 replace hbt := At.grownAt hbt hm c Dd
 replace hst := dh.grownAt hst hm c Dd
 replace hks := dR.grownAt hks hm c
 replace hB := dy hB c hN0 (fun j hj => by cases hj; exact lom)
 replace hk1_1 := dh.grownAt hk1_1 hm c Dd
 replace hLO1_1 := LO.grownAt hLO1_1 hm c Dd
 replace a := At.grownNe a (Ne.symm i) c
 clear c hm
 replace hm := q
 refine cT <| Zr <| Zw (.bool g) rfl <| Zw (.bool g) rfl <| cT <| Zt <| dE (v := .bool g) rfl ?_
 exact ⟨hB, h3, hbt, hst, _, _, _, _, _, rfl, hm, hk1_1, hLO1_1, hks, Iz hrd hr htp1_1⟩
theorem sD (N bm bt bk b3 : Nat) (n : Int) (xs rv : Value) (fs vs : List Value) (L0 L : ML) (ks : List Int) (w : World) (hN0 : N ≤ w.heap.size) (hm : At w bm #[.int .i64 n, rv] 77) (hrv : dh encV 1 80 w 0 rv vs) (hLO : LO 3 0 w vs L) (hr : dX n L = true) (hLb : L.length ≤ 1000000) (hrd : lD L0 L ks) (h3 : At w b3 #[.int .i64 0, .slice none 0 0] 77) (hbt : At w bt #[.map (some bk)] 85) (hst : dh encV 1 28 w N xs fs) (hks : dR eK Value.bool w bk (ft ks)) (lom : N ≤ bm) (lok : N ≤ bk) (hne : b3 ≠ bm) :
    qJ Tryz.prog 77 #[.pointer (some ⟨bm, 0, none⟩)] w fun v w' => Below N w w' ∧ At w' b3 #[.int .i64 0, .slice none 0 0] 77 ∧ At w' bt #[.map (some bk)] 85 ∧ dh encV 1 28 w' N xs fs ∧ ∃ rv' vs' L' ks' b, v = .bool b ∧ At w' bm #[.int .i64 n, rv'] 77 ∧ dh encV 1 80 w' 0 rv' vs' ∧ LO 3 0 w' vs' L' ∧ dR eK Value.bool w' bk (ft ks') ∧ Mg L0 L' L ks' n b := by
 refine eX (n := 11) Tryz.func77 rfl rfl (Nat.le_of_ble_eq_true rfl) ?_
 have hB : Below N w w := Below.refl _ _
 refine Zr <| Zw (.bool false) rfl <| cT <| Zr <| Zv (db rfl dH rfl hm) <| ZC (vs := [.agg #[_, _]]) MK (s5 n rv vs L _ hrv hLO hr hLb) rfl fun r W5 f k => ?_
 replace hm := f.at hm
 replace hrv := f.ow hrv
 replace hLO := LO.ext f hLO
 replace h3 := f.at h3
 replace hbt := f.at hbt
 replace hst := f.ow hst
 replace hks := f.mapT hks
 replace hB := dF hB f hN0
 obtain ⟨rv1_1, s, L1_1, g, rfl, hk1_1, hLO1_1, htp1_1⟩ := k
 refine Zw (.tuple #[.agg #[.int .i64 _, rv1_1], .bool g]) rfl <| Zv (dI rfl) <| Zv (dK rfl) <| Zy (dt ia rfl fun l W8 h d a => ?_)
 have m : N ≤ l := h ▸ (Nat.le_trans hN0 (Below.size hB))
 have i := Zn h hm.lt
 have o := Zn h h3.lt
 clear h
 replace hm := d.at hm
 replace hrv := d.ow hrv
 replace hLO := LO.ext d hLO
 replace h3 := d.at h3
 replace hbt := d.at hbt
 replace hst := d.ow hst
 replace hks := d.mapT hks
 replace hB := dF hB d hN0
 replace hk1_1 := d.ow hk1_1
 replace hLO1_1 := LO.ext d hLO1_1
 refine Zy (dg rfl rfl dH rfl a rfl (by exact ib (dh.one hk1_1)) fun t e p => ?_)
 replace hm := At.grownNe hm i e
 replace hrv := dh.grownAt hrv a e Dd
 replace hLO := LO.grownAt hLO a e Dd
 replace h3 := At.grownNe h3 o e
 replace hbt := At.grownAt hbt a e Dd
 replace hst := dh.grownAt hst a e Dd
 replace hks := dR.grownAt hks a e
 replace hB := dy hB e hN0 (fun j hj => by cases hj; exact m)
 replace hk1_1 := dh.grownAt hk1_1 a e Dd
 replace hLO1_1 := LO.grownAt hLO1_1 a e Dd
 replace a := p
 refine Zw (.bool g) rfl <| cT <| Zr <| Zv (db rfl dH rfl a) <| Zy (dg rfl rfl dH rfl hm rfl (by exact ib (dh.one hk1_1)) fun u c q => ?_)
 replace hrv := dh.grownAt hrv hm c Dd
 replace hLO := LO.grownAt hLO hm c Dd
 replace h3 := At.grownNe h3 hne c
 replace hbt := At.grownAt hbt hm c Dd
 replace hst := dh.grownAt hst hm c Dd
 replace hks := dR.grownAt hks hm c
 replace hB := dy hB c hN0 (fun j hj => by cases hj; exact lom)
 replace hk1_1 := dh.grownAt hk1_1 hm c Dd
 replace hLO1_1 := LO.grownAt hLO1_1 hm c Dd
 replace a := At.grownNe a (Ne.symm i) c
 clear c hm
 replace hm := q
 refine cT <| Zr <| Zw (.bool g) rfl <| Zw (.bool g) rfl <| cT <| Zt <| dE (v := .bool g) rfl ?_
 exact ⟨hB, h3, hbt, hst, _, _, _, _, _, rfl, hm, hk1_1, hLO1_1, hks, Iz hrd hr htp1_1⟩
theorem Ok (i : Nat) (N bm bt bk b3 : Nat) (n : Int) (xs rv : Value) (fs vs : List Value) (L0 L : ML) (ks : List Int) (w : World) (hN0 : N ≤ w.heap.size) (hm : At w bm #[.int .i64 n, rv] 77) (hrv : dh encV 1 80 w 0 rv vs) (hLO : LO 3 0 w vs L) (hr : dX n L = true) (hLb : L.length ≤ 1000000) (hrd : lD L0 L ks) (h3 : At w b3 #[.int .i64 0, .slice none 0 0] 77) (hbt : At w bt #[.map (some bk)] 85) (hst : dh encV 1 28 w N xs fs) (hks : dR eK Value.bool w bk (ft ks)) (lom : N ≤ bm) (lok : N ≤ bk) (hne : b3 ≠ bm) (hi : i < 3) :
    qJ Tryz.prog (Qp 73 75 77 i) (Qn bm bt i) w fun v w' => Below N w w' ∧ At w' b3 #[.int .i64 0, .slice none 0 0] 77 ∧ At w' bt #[.map (some bk)] 85 ∧ dh encV 1 28 w' N xs fs ∧ ∃ rv' vs' L' ks' b, v = .bool b ∧ At w' bm #[.int .i64 n, rv'] 77 ∧ dh encV 1 80 w' 0 rv' vs' ∧ LO 3 0 w' vs' L' ∧ dR eK Value.bool w' bk (ft ks') ∧ Mg L0 L' L ks' n b := by
  match i, hi with
  | 0, _ => exact sv N bm bt bk b3 n xs rv fs vs L0 L ks w hN0 hm hrv hLO hr hLb hrd h3 hbt hst hks lom lok hne
  | 1, _ => exact sM N bm bt bk b3 n xs rv fs vs L0 L ks w hN0 hm hrv hLO hr hLb hrd h3 hbt hst hks lom lok hne
  | 2, _ => exact sD N bm bt bk b3 n xs rv fs vs L0 L ks w hN0 hm hrv hLO hr hLb hrd h3 hbt hst hks lom lok hne
theorem oQ (n : Int) (rv : Value) (vs : List Value) (L : ML) (w : World) (hrv : dh encV 1 80 w 0 rv vs) (hLO : LO 3 0 w vs L) (hr : dX n L = true) (hLb : L.length ≤ 1000000) :
    Fn Tryz.prog 44 #[.agg #[.int .i64 n, rv]] w fun v w' => ∃ tv T rv' vs' L', v = .tuple #[tv, .agg #[.int .i64 n, rv'], .int .i64 0] ∧ dh d9 1 3 w' w.heap.size tv T ∧ dh encV 1 80 w' 0 rv' vs' ∧ LO 3 0 w' vs' L' ∧ lD L L' T ∧ dX n L' = true ∧ L'.length ≤ L.length ∧ T.length ≤ n.toNat := by
 refine dq (n := 44) Tryz.func44 rfl rfl (Nat.le_of_ble_eq_true rfl) ?_
 have hB : Below w.heap.size w w := Below.refl _ _
 have hll := hLO.ll
 have hvl := hll.len
 refine Zr <| Zy (dU (c := #[_, _]) rfl rfl fun h W3 N ad e => ?_)
 have ae := ZO N hB
 clear N
 replace hB := Ze hB ad
 refine Zw (.slice none 0 0) rfl <| Zy (dt ia rfl fun B W6 G O d => ?_)
 have af := ZO G hB
 have H := Zn G e.lt
 clear G
 replace hB := Ze hB O
 replace e := O.at e
 refine Zw (.int .i64 0) rfl <| cT <| Al <| cY fun K9 ag => Zr <| Zv (db rfl dH rfl e) <| ZC (vs := [.agg #[_, _]]) wC (jE n _ _ L _ ((Below.ow hB hrv)).sl (LO.mono (LO.below hB hLO) (Nat.zero_le _)).ll hLb (fun i => Nat.le_trans (fJ hr i) Dd)) rfl fun aL aM I ah => ?_
 replace hB := Ze hB I
 replace e := I.at e
 replace d := I.at d
 obtain rfl := ah
 refine Zv (fy rfl) <| cT <| ZQ rfl (fun P => ?_) fun P => ?_
 exact absurd (jc P) (by rw [hr]; decide)
 refine c9 <| ag _ _ <| Zr <| Zy (gE (enc := eK) (encV := Value.bool) fun C aN Q J l => ?_)
 have ai := ZO Q hB
 clear Q
 replace hB := Ze hB J
 replace e := J.at e
 replace d := J.at d
 replace l : dR eK Value.bool _ _ (ft []) := l
 refine Zy (dt OS rfl fun j aO R D f => ?_)
 have aj := ZO R hB
 clear R
 replace hB := Ze hB D
 replace e := D.at e
 replace d := D.at d
 replace l := D.mapT l
 refine Zy (eC (v := .map (some C)) rfl rfl yQ rfl f (by exact Nat.zero_lt_one) fun aP E ak => ?_)
 replace hB := Zg hB E aj
 replace e := At.grownAt e f E Dd
 replace d := At.grownAt d f E Dd
 replace l := dR.grownAt l f E
 replace f := ak
 replace f : At _ _ #[_] _ := f
 refine cT <| Zr <| Zw (.slice none 0 0) rfl <| cT <| Zr <| Zv (gV (vs := #[.pointer (some ⟨h, 0, none⟩), .pointer (some ⟨j, 0, none⟩)]) (by simp only [List.map_toArray, List.map_cons, List.map_nil]; rfl)) <| Zv (gV (vs := #[.pointer (some ⟨h, 0, none⟩)]) (by simp only [List.map_toArray, List.map_cons, List.map_nil]; rfl)) <| Zv (gV (vs := #[.pointer (some ⟨h, 0, none⟩)]) (by simp only [List.map_toArray, List.map_cons, List.map_nil]; rfl)) <| Zy (Oq (u0 := .func (.func 73) #[] #[.pointer (some ⟨h, 0, none⟩), .pointer (some ⟨j, 0, none⟩)]) (u1 := .func (.func 75) #[] #[.pointer (some ⟨h, 0, none⟩)]) (u2 := .func (.func 77) #[] #[.pointer (some ⟨h, 0, none⟩)]) rfl rfl rfl wG Lv rfl rfl rfl fun p aQ S t al => ?_)
 have ao := ZO S hB
 clear S
 replace hB := Ze hB t
 replace e := t.at e
 replace d := t.at d
 replace l := t.mapT l
 replace f := t.at f
 have g := Ig al ao
 replace g : dh encV 1 _ _ _ _ (Pf h j 73 75 77) := g
 refine Zw (.slice (some ⟨p, 0, none⟩) 3 3) rfl <| cT <| cY fun aR ap => AM <| ap _ _ <| cY fun aS aq => c7 ?_
 refine dw (σ := (Value) × (List Value) × (ML) × (List Int)) [9, 20, 21, 22, 23, 24, 25, 26, 27, 28] (fun (rv1, s, L1, ks) => []) (fun sg W => match sg with | (rv1, s, L1, ks) => (Below w.heap.size w W) ∧ (At W B _ 77) ∧ (At W j _ 85) ∧ (dh encV 1 28 W w.heap.size (.slice (some ⟨p, 0, none⟩) 3 3) _) ∧ (At W h #[.int .i64 n, rv1] 77) ∧ (dh encV 1 80 W 0 rv1 s) ∧ (LO 3 0 W s (L1)) ∧ (dR eK Value.bool W C (ft ks)) ∧ (lD L L1 ks) ∧ (dX n L1 = true) ∧ (L1.length ≤ L.length) ∧ (True)) (fun (rv1, s, L1, ks) => qP L1) ((rv, vs, L, [])) trivial ⟨hB, d, f, g, e, (dh.mono (Below.ow hB hrv) (Nat.le_refl _)), (LO.below hB hLO), l, (lD.start L), hr, (Nat.le_refl _), trivial⟩ ?_
 clear hB e d l f g
 rintro ⟨rv1, s, L1, ks⟩ aT aU ⟨hB, d, f, g, e, hrw, hlo, hmk, hrd, hr1, hl1, _⟩ aV ar
 refine c7 <| cY fun aW au => Zr <| Zw (.slice (some ⟨p, 0, none⟩) 3 3) rfl <| Zv (dA (v := .slice (some ⟨p, 0, none⟩) 3 3) rfl g.sl wG) <| Zw (.int .i64 0) rfl <| cT <| c7 ?_
 refine dw (σ := (Nat) × (Value) × (List Value) × (ML) × (List Int)) [9, 22, 23, 24, 25, 26, 27, 28] (fun (i, rv2, y, L2, ks2) => [(22, .int .i64 (i : Int))]) (fun sg W => match sg with | (i, rv2, y, L2, ks2) => (Below w.heap.size w W) ∧ (At W B _ 77) ∧ (At W j _ 85) ∧ (dh encV 1 28 W w.heap.size (.slice (some ⟨p, 0, none⟩) 3 3) _) ∧ (At W h #[.int .i64 n, rv2] 77) ∧ (dh encV 1 80 W 0 rv2 y) ∧ (LO 3 0 W y (L2)) ∧ (dR eK Value.bool W C (ft ks2)) ∧ (i ≤ 3) ∧ (lD L L2 ks2) ∧ (dX n L2 = true) ∧ (L2.length ≤ L.length) ∧ (qP L2 ≤ qP L1) ∧ (True)) (fun (i, rv2, y, L2, ks2) => 3 - i) ((0, rv1, s, L1, ks)) ⟨rfl, trivial⟩ ⟨hB, d, f, g, e, hrw, hlo, hmk, (Nat.zero_le _), hrd, hr1, hl1, (Nat.le_refl _), trivial⟩ ?_
 clear hB d f g e hrw hlo hmk
 rintro ⟨i, rv2, y, L2, ks2⟩ aX z ⟨hB, d, f, g, e, hrw2, hlo2, hmk, hi, hrd2, hr2, hl2, U, _⟩ aY av
 have hcl : (Pf h j 73 75 77).length = 3 := rfl
 refine Zr <| Zv (dL rfl rfl) <| cT <| cY fun aZ aw => ZQ rfl (fun ax => ?_) fun ax => ?_
 refine c9 <| aw _ _ <| cY fun a0 ay => c7 <| Zr <| Zv (dJ (v := .slice (some ⟨p, 0, none⟩) 3 3) rfl g.sl rfl wG Om Om) <| Zv (dk (v := ((Pf h j 73 75 77).getD i undef)) rfl J1 (dM.cell g.sl fW undef Om Om 0 rfl)) <| Zw ((Pf h j 73 75 77).getD i undef) rfl <| cT <| Zr <| Zw ((Pf h j 73 75 77).getD i undef) rfl ?_
 refine mG (dd := some 27) rfl rfl rfl (jV (q := Qp 73 75 77 i) (first := #[]) (cap := Qn h j i) (vs := Qn h j i) (LG Om) (Q2 OR NK Nk) (by simp)) (Ok i _ _ _ _ _ n _ _ _ _ L L2 ks2 _ (Below.size hB) e hrw2 hlo2 hr2 Om hrd2 d f g hmk ae ai H.symm Om) (fun a1 a2 az => ?_)
 obtain ⟨hBt9_1, h39_1, ht9_1, aA, rv9_1, V, L9_1, ks9_1, a3, rfl, aB, hk9_1, hLO9_1, hq9_1, hS9_1⟩ := az
 replace hB := Below.trans hB hBt9_1
 replace e := aB
 replace d := h39_1
 replace f := ht9_1
 replace g := aA
 replace hmk := hq9_1
 clear hrw2 hlo2
 refine cT <| ZQ rfl (fun X => ?_) fun X => ?_
 refine dr ?_
 refine ar _ _ ((rv9_1, V, L9_1, ks9_1)) ?_ ?_ ?_ ?_
 · repeat (first | exact fz.mask _ _ _ | refine fz.updo ?_ rfl _ | refine fz.updL ?_ _ rfl | refine fz.maskS rfl ?_)
 · exact trivial
 · exact ⟨hB, d, f, g, (by exact e), hk9_1, hLO9_1, (by exact hmk), (hS9_1.rd), (hS9_1.r), (Nat.le_trans hS9_1.len hl2), trivial⟩
 · exact Nat.lt_of_lt_of_le (hS9_1.szt X) U
 refine c9 <| ay _ _ <| cZ <| Zv (dp rfl rfl Om Om) <| Zi rfl <| cT ?_
 exact av _ _ ((i + 1, rv9_1, V, L9_1, ks9_1)) Za ⟨rfl, trivial⟩ ⟨hB, d, f, g, (by exact e), hk9_1, hLO9_1, (by exact hmk), Om, hS9_1.rd, hS9_1.r, (Nat.le_trans hS9_1.len hl2), (Nat.le_trans hS9_1.sz U), trivial⟩ Zo
 refine dr <| au _ _ <| dr <| aq _ _ <| cY fun a4 aC => ?_
 have aD := Below.ow hB hrv
 have aE := LO.below hB hLO
 have K := hB
 replace hB := Below.refl z.heap.size z
 have hn0 := (fl.1 hr).1
 have hn4 := (fl.1 hr).2.1
 refine Zr <| Zf rfl iy <| Zl rfl dB (Below.atI hB e) rfl <| Zw (.int .i64 0) rfl <| cT <| c7 ?_
 refine dw (σ := (Nat) × (Value)) [6, 10, 31, 32, 33, 34, 35, 36, 37, 38, 39, 40, 41] (fun (cc, v0) => [(31, .int .i64 (cc : Int)), (6, v0)]) (fun sg W => match sg with | (cc, v0) => (Below z.heap.size z W) ∧ (dh d9 1 3 W z.heap.size v0 (kC ks2 cc)) ∧ ((cc : Int) ≤ n) ∧ (True)) (fun (cc, v0) => n.toNat - cc) ((0, .slice none 0 0)) ⟨rfl, rfl, trivial⟩ ⟨hB, dh.nil, Om, trivial⟩ ?_
 clear hB
 rintro ⟨cc, v0⟩ a5 a6 ⟨hB, ho, hcc, _⟩ a7 Y
 refine Zr <| Zv (dL rfl rfl) <| cT <| cY fun a8 aF => ZQ rfl (fun aG => ?_) fun aG => ?_
 refine c9 <| aF _ _ <| cY fun a9 Z => c7 <| Zr <| Zi rfl <| Zi rfl <| cT <| Zr <| ZL (.map (some C)) rfl yQ (Below.atI hB f) rfl <| Zi rfl <| Zv (fR (enc := eK) (encV := Value.bool) (v0 := false) (k := _) rfl rfl na gI (fun a => ⟨a, rfl⟩) fS oN rfl (Below.mapI hB hmk)) <| cT <| ZQ rfl (fun A => ?_) fun A => ?_
 refine cZ <| Zw v0 rfl <| Zi rfl <| Zy (fc (u := .int .i64 _) rfl du fv rfl Dd Dd fun aa ba M ab aH => ?_)
 have bb := ZO M hB
 have bc := dh.neB (b := aa) ho (Nat.le_of_eq M.symm)
 clear M
 replace hB := Ze hB ab
 replace ho := ab.ow ho
 refine Zy (ez (v := v0) (v2 := .slice (some ⟨aa, 0, none⟩) 1 1) rfl rfl du fv Dd ho (fG aH rfl) rfl (by have := Below.size hB; omega) (by have := lx ks2 cc; omega) (by have := lx ks2 cc; omega) fun ac bd aI F => ?_)
 replace F := dh.snoc (enc := d9) (x := _) rfl rfl rfl rfl F
 replace hB := ZG hB aI ho
 clear ho
 refine Zw ac rfl <| cT <| Z _ _ <| cZ <| Zv (dp rfl rfl Om Om) <| Zi rfl <| cT ?_
 exact Y _ _ ((cc + 1, ac)) Za ⟨rfl, rfl, trivial⟩ ⟨hB, (by first | (rw [iX, if_pos (nh A)]; exact F) | (rw [iX, if_neg (lj A)]; exact F)), Om, trivial⟩ (by show n.toNat - (cc + 1) < n.toNat - cc; omega)
 refine c9 <| Z _ _ <| cZ <| Zv (dp rfl rfl Om Om) <| Zi rfl <| cT ?_
 exact Y _ _ ((cc + 1, v0)) Za ⟨rfl, rfl, trivial⟩ ⟨hB, (by first | (rw [iX, if_pos (nh A)]; exact ho) | (rw [iX, if_neg (lj A)]; exact ho)), Om, trivial⟩ (by show n.toNat - (cc + 1) < n.toNat - cc; omega)
 refine dr <| aC _ _ ?_
 try clear aD
 try clear aE
 replace d := Below.atI hB d
 replace f := Below.atI hB f
 replace g := Below.ow hB g
 replace e := Below.atI hB e
 replace hrw2 := Below.ow hB hrw2
 replace hlo2 := LO.below hB hlo2
 replace hmk := Below.mapI hB hmk
 have hzs := Nat.le_trans (Nat.le_refl _) (Below.size K)
 replace ho := dh.mono ho hzs
 replace hB := Below.trans K (Below.mono hB hzs)
 clear K hzs
 obtain rfl : cc = n.toNat := by omega
 refine Zd (fun a b => a.grownBy b (some B)) fun aJ o => ?_
 replace d := o.at d
 replace f := o.at f
 replace g := o.ow g
 replace e := o.at e
 replace hrw2 := o.ow hrw2
 replace hlo2 := LO.ext o hlo2
 replace hmk := o.mapT hmk
 replace hB := Ze hB o
 replace ho := o.ow ho
 have bf := d
 have hS := World.grownBy.refl aJ (some B)
 refine Tw 0 v0 rfl rfl hS <| Tk 1 rfl (fun _ hq => db rfl dH rfl (At.grownNe e H hq)) hS <| Tw 2 v0 rfl rfl hS <| To 3 rfl (dg rfl rfl dH rfl d rfl (by exact ib (dh.one hrw2)) fun bg m aK => ⟨.inl (dD hS m), ?_⟩)
 replace hS := dD hS m
 replace f := At.grownAt f d m Dd
 replace g := dh.grownAt g d m Dd
 replace e := At.grownNe e H m
 replace hrw2 := dh.grownAt hrw2 d m Dd
 replace hlo2 := LO.grownAt hlo2 d m Dd
 replace hmk := dR.grownAt hmk d m
 replace hB := Zg hB m af
 replace ho := dh.grownAt ho d m Dd
 replace d := aK
 refine Tw 4 (.int .i64 0) rfl rfl hS <| Td <| Zt <| KV (v := v0) rfl rfl dH d rfl (v2 := .int .i64 0) rfl ⟨hB, ?_⟩
 exact ⟨_, _, _, _, _, rfl, ho, dh.mono hrw2 (Nat.zero_le _), hlo2, lD.ris hr hrd2, hr2, hl2, lx _ _⟩
end
section
open Go Go.RowKit
theorem mN {L : ML} {k : Nat} : i5 L k = true ↔ ∀ i, i < k → 0 < (L.getD i []).length := by
 unfold i5
 rw [List.all_eq_true]
 exact ⟨fun h i hi => of_decide_eq_true (h i (List.mem_range.2 hi)), fun h i hi => decide_eq_true (h i (List.mem_range.1 hi))⟩
theorem MF {L : ML} {k : Nat} (hk : k < L.length) (h : ((L.getD k []).length : Int) = 0) : Value.bool false = .bool (i5 L L.length) := ot fun e => by
 have := mN.1 e k hk
 omega
theorem Ml {L : ML} {k : Nat} (hk : k = L.length) (h : ∀ q, q < k → ¬ ((L.getD q []).length : Int) = 0) : Value.bool true = .bool (i5 L L.length) := Bu (mN.2 fun i hi => by
 have := h i (by omega)
 omega)
theorem JP {L : ML} {i j : Nat} (hj : j < (L.getD i []).length) (h : (g6 (ft (wT L i)) ((L.getD i []).getD j 0)).getD false = true) : As (wT L i) (L.getD i []) = true := List.any_eq_true.2 ⟨_, dS hj, decide_eq_true (nh h)⟩
theorem NH {L : ML} {i j : Nat} (hj : j = (L.getD i []).length) (h : ∀ q, q < j → (g6 (ft (wT L i)) ((L.getD i []).getD q 0)).getD false = false) : ¬ As (wT L i) (L.getD i []) = true := fun e => by
 obtain ⟨c, h1, h2⟩ := List.any_eq_true.1 e
 obtain ⟨q, hq, rfl⟩ := fo (d := 0) h1
 exact lj (h q (by omega)) (of_decide_eq_true h2)
theorem Mr {L : ML} {k : Nat} (h : As (wT L k) (L.getD k []) = true) : wT L (k + 1) = wT L k := if_pos h
theorem Mp {L : ML} {k : Nat} (h : ¬ As (wT L k) (L.getD k []) = true) : wT L (k + 1) = o4 (wT L k) (L.getD k []) (L.getD k []).length := if_neg h
theorem Qa {L : ML} {k : Nat} (h : As (wT L k) (L.getD k []) = true) : Value.int .i64 (Aw L k : Int) = .int .i64 (Aw L (k + 1) : Int) := by rw [Aw, if_pos h]
theorem PV {L : ML} {k : Nat} (h : ¬ As (wT L k) (L.getD k []) = true) : Value.int .i64 ((Aw L k : Int) + 1) = .int .i64 (Aw L (k + 1) : Int) := by rw [Aw, if_neg h]; rfl
theorem Dg (L : ML) : ∀ k, Aw L k ≤ k
 | 0 => Nat.le_refl _
 | k + 1 => by
  have := Dg L k
  rw [Aw]
  split <;> omega
theorem QK {r : List Int} {c : Int} {j : Nat} (h : c ∈ r.take j) : Value.bool true = .bool (decide (c ∈ r.take (j + 1))) := Bu (decide_eq_true (by rw [List.take_add_one]; exact List.mem_append.2 (.inl h)))
theorem QA {r : List Int} {c : Int} {j : Nat} (hj : j < r.length) (h : ¬ c ∈ r.take j) : Value.bool (decide (r.getD j 0 = c)) = .bool (decide (c ∈ r.take (j + 1))) := by
 congr 1
 rw [decide_eq_decide, List.take_add_one, List.mem_append, List.getElem?_eq_getElem hj, List.getD_eq_getElem?_getD, List.getElem?_eq_getElem hj]
 simp only [Option.getD_some, Option.toList_some, List.mem_singleton]
 exact ⟨fun e => .inr e.symm, fun e => (e.resolve_left h).symm⟩
structure wQ (L : ML) (i M : Nat) (l : List (Int × Int)) : Prop where
 nd : (l.map (·.1)).Nodup
 inl : ∀ c, c ∈ l.map (·.1) → qv L c
 lim : ∀ p, p ∈ l → 0 ≤ p.2 ∧ p.2 ≤ M
 ne : ∀ k, k < i → 0 < (L.getD k []).length → l ≠ []
section
variable {L : ML} {i j M : Nat} {l : List (Int × Int)} {c : Int}
theorem wQ.nil : wQ L 0 0 [] := ⟨List.nodup_nil, fun c h => (by cases h), fun p h => (by cases h), fun k hk => (by cases hk)⟩
theorem wQ.mono {M' : Nat} (h : wQ L i M l) (hM : M ≤ M') : wQ L i M' l := ⟨h.nd, h.inl, fun p hp => ⟨(h.lim p hp).1, by have := (h.lim p hp).2; omega⟩, h.ne⟩
theorem wQ.get (h : wQ L i M l) (c : Int) : 0 ≤ (g6 l c).getD 0 ∧ (g6 l c).getD 0 ≤ M := by
 cases e : g6 l c with
 | none => exact ⟨Int.le_refl _, Int.natCast_nonneg _⟩
 | some v => exact h.lim (c, v) ((md h.nd).1 e)
theorem F6 {α β : Type} [DecidableEq α] {l : List (α × β)} {c : α} {v : β} {p : α × β} (h : p ∈ g7 l c v) : p = (c, v) ∨ p ∈ l := by
 unfold g7 at h
 split at h
 ·obtain ⟨q, hq, e⟩ := List.mem_map.1 h
  split at e
  ·exact .inl e.symm
  ·rw [← e]; exact .inr hq
 ·rcases List.mem_append.1 h with k | k
  ·exact .inr k
  ·exact .inl (List.mem_singleton.1 k)
theorem D7 {v : Int} : g7 l c v ≠ [] := fun e => by
 have := j7 l c v
 rw [e] at this
 have h2 : c ∈ iB (l.map (·.1)) c := gm.2 (.inr rfl)
 rw [← this] at h2
 cases h2
theorem wQ.put (h : wQ L i M l) (hi : i < L.length) (hj : j < (L.getD i []).length) : wQ L i (M + 1) (g7 l ((L.getD i []).getD j 0) ((g6 l ((L.getD i []).getD j 0)).getD 0 + 1)) := by
 refine ⟨?_, fun c hc => ?_, fun p hp => ?_, fun k _ _ => D7⟩
 ·rw [j7]; exact jl h.nd _
 ·rw [j7] at hc
  rcases gm.1 hc with k | rfl
  ·exact h.inl c k
  ·exact ⟨_, dS (d := []) hi, dS hj⟩
 ·rcases F6 hp with rfl | k
  ·have := h.get ((L.getD i []).getD j 0)
   exact ⟨by dsimp only; omega, by dsimp only; omega⟩
  ·have := h.lim p k
   exact ⟨this.1, by omega⟩
theorem wQ.next {M' : Nat} (h : wQ L i M l) (hn : 0 < (L.getD i []).length → l ≠ []) (hM : M ≤ M') : wQ L (i + 1) M' l := ⟨h.nd, h.inl, fun p hp => ⟨(h.lim p hp).1, by have := (h.lim p hp).2; omega⟩, fun k hk hkl => by
 rcases Nat.lt_succ_iff_lt_or_eq.1 hk with q | rfl
 ·exact h.ne k q hkl
 ·exact hn hkl⟩
def PK (L : ML) (seen : List Int) (b : Int) : Prop := (seen = [] ∧ b = -1) ∨ (0 ≤ b ∧ qv L b)
theorem CJ {n v : Int} {seen : List Int} (hr : dX n L = true) (h : wQ L i M l) (hc : (c, v) ∈ l) : PK L (c :: seen) c :=
 have q := h.inl c (List.mem_map.2 ⟨_, hc, rfl⟩)
 .inr ⟨(pO hr q).1, q⟩
theorem Hl {seen : List Int} {b : Int} (h : PK L seen b) (hb : ¬ b < 0) : PK L (c :: seen) b := .inr (h.resolve_left fun q => by have := q.2; omega)
theorem N5 {seen : List Int} {b : Int} (h : PK L seen b) (hu : wQ L i M l) (hi : i = L.length) (hs : ∀ p, p ∈ l → p.1 ∈ seen) (hk : ∃ k, k < L.length ∧ 0 < (L.getD k []).length) : qv L b := by
 obtain ⟨k, hk, hl⟩ := hk
 rcases h with ⟨rfl, _⟩ | h
 ·have := hu.ne k (by omega) hl
  match l, this, hs with
  | p :: _, _, hs => cases hs p (List.mem_cons_self ..)
 ·exact h.2
end
theorem Dj {a b : List Int} (h : ∀ c, c ∈ a ↔ c ∈ b) (k : Nat) : kC a k = kC b k := by
 unfold kC
 congr 1
 exact List.filter_congr fun c _ => decide_eq_decide.2 (h c)
theorem KS (l : List Int) (k : Nat) : kC (o4 [] l l.length) k = kC l k := Dj (fun c => by
 rw [pT _ (Nat.le_refl _), List.take_length]
 simp) k
structure GZ (n : Int) (L0 L : ML) (out : List Int) : Prop where
 r : dX n L = true
 full : i5 L L.length = true
 up : ∀ X, mp L X → mp L0 (out ++ X)
 len : out.length + L.length ≤ L0.length
theorem GZ.start {n : Int} {L : ML} (hr : dX n L = true) (hf : i5 L L.length = true) : GZ n L L [] := ⟨hr, hf, fun X h => h, by simp⟩
theorem vg {L : ML} : i5 L L.length = true ↔ ∀ r, r ∈ L → r ≠ [] := by
 rw [mN]
 constructor
 ·intro h r hr
  obtain ⟨j, hj, rfl⟩ := fo (d := []) hr
  exact fun e => by have := h j hj; rw [e] at this; cases this
 ·intro h i hi
  exact List.length_pos_iff.2 (h _ (dS hi))
theorem GZ.inl {n c : Int} {L0 L : ML} {out : List Int} (h : GZ n L0 L out) (hp : (L.length : Int) > 0) (hb : (∃ k, k < L.length ∧ 0 < (L.getD k []).length) → qv L c) : qv L c :=
 hb ⟨0, by omega, mN.1 h.full 0 (by omega)⟩
theorem GZ.next {n c : Int} {L0 L : ML} {out : List Int} (h : GZ n L0 L out) (hc : qv L c) : GZ n L0 (qK L c) (out ++ [c]) := by
 refine ⟨wc h.r c, vg.2 fun r hr => vg.1 h.full r (mT.1 hr).1, fun X hX => ?_, ?_⟩
 ·rw [List.append_assoc]
  exact h.up _ (CB hX)
 ·have := xQ hc
  have := h.len
  rw [List.length_append, List.length_singleton]; omega
theorem GZ.fin {n : Int} {L0 L : ML} {out : List Int} (h0 : dX n L0 = true) (h : GZ n L0 L out) (hp : ¬ (L.length : Int) > 0) : mp L0 (kC out n.toNat) := by
 have : L = [] := List.eq_nil_of_length_eq_zero (by omega)
 subst this
 have h2 := h.up [] (Ef _)
 rw [List.append_nil] at h2
 exact pV h0 h2
end
section
open Go Go.RowKit
theorem pe : lK Tryz.prog 155 = some (3, 3) := by kernel_rfl
theorem m3 (n : Int) (rv : Value) (vs : List Value) (L : ML) (w : World) (hrv : dh encV 1 80 w 0 rv vs) (hLO : LO 3 0 w vs L) (hLb : L.length ≤ 1000000) :
    Fn Tryz.prog 80 #[.agg #[.int .i64 n, rv]] w fun v w' => v = .bool (i5 L L.length) := by
 refine dq (n := 16) Tryz.func80 rfl rfl (Nat.le_of_ble_eq_true rfl) ?_
 have hB : Below w.heap.size w w := Below.refl _ _
 have hll := hLO.ll
 have hvl := hll.len
 refine Zr <| Zy (dU (c := #[_, _]) rfl rfl fun e W3 d f a => ?_)
 have o := ZO d hB
 clear d
 replace hB := Ze hB f
 refine Zw (.bool false) rfl <| cT <| cY fun K6 g => Zr <| Zf rfl eq <| ZL rv rfl fk a rfl <| Zv (dA (v := rv) rfl ((Below.ow hB hrv)).sl eb) <| Zw (.int .i64 0) rfl <| cT <| c7 ?_
 refine dw (σ := (Nat)) [2, 4, 8, 9, 10, 11, 12, 13, 14, 15] (fun k => [(8, .int .i64 (k : Int))]) (fun k W => (Below w.heap.size w W) ∧ (At W e _ 77) ∧ (k ≤ L.length) ∧ (∀ q, q < k → ¬ ((L.getD q []).length : Int) = 0) ∧ (True)) (fun k => L.length - k) (0) ⟨rfl, trivial⟩ ⟨hB, a, (Nat.zero_le _), ff, trivial⟩ ?_
 clear hB a
 rintro k p r ⟨hB, a, hk, hq, _⟩ s h
 refine Zr <| Zv (dL rfl rfl) <| cT <| cY fun t i => ZQ rfl (fun j => ?_) fun j => ?_
 refine c9 <| i _ _ <| cY fun u l => c7 <| Zr <| Zv (dJ (v := rv) rfl ((Below.ow hB hrv)).sl rfl eb Om Om) <| Zv (dk (v := (vs.getD k undef)) rfl iO (dM.cell ((Below.ow hB hrv)).sl fW undef Om Om 0 rfl)) ?_
 have m : dM d9 1 w ((vs.getD k undef)) (L.getD k []) := hll.get k (by omega)
 refine Zw (vs.getD k undef) rfl <| cT <| Zr <| Zw (vs.getD k undef) rfl <| Zv (dA (v := (vs.getD k undef)) rfl (Below.slT hB m) du) <| Zv (eB rfl rfl) <| cT <| ZQ rfl (fun b => ?_) fun b => ?_
 refine Zr <| Zw (.bool false) rfl <| cT <| Zt <| dE (v := .bool false) rfl ⟨hB, ?_⟩
 first | exact MF (k := k) (by omega) b | exact Ml (by omega) hq
 refine c9 <| l _ _ <| cZ <| Zv (dp rfl rfl Om Om) <| Zi rfl <| cT ?_
 exact h _ _ (k + 1) Za ⟨rfl, trivial⟩ ⟨hB, a, Om, (ey hq b), trivial⟩ Zo
 refine dr <| g _ _ <| Zr <| Zw (.bool true) rfl <| cT <| Zt <| dE (v := .bool true) rfl ⟨hB, ?_⟩
 first | exact MF (k := k) (by omega) b | exact Ml (by omega) hq
theorem ws (n : Int) (rv : Value) (vs : List Value) (L : ML) (w : World) (hrv : dh encV 1 80 w 0 rv vs) (hLO : LO 3 0 w vs L) (hr : dX n L = true) (hLb : L.length ≤ 1000000) :
    Fn Tryz.prog 81 #[.agg #[.int .i64 n, rv]] w fun v w' => v = .int .i64 (Aw L L.length : Int) := by
 refine dq (n := 42) Tryz.func81 rfl rfl (Nat.le_of_ble_eq_true rfl) ?_
 have hB : Below w.heap.size w w := Below.refl _ _
 have hll := hLO.ll
 have hvl := hll.len
 refine Zr <| Zy (dU (c := #[_, _]) rfl rfl fun h W3 m t b => ?_)
 have M := ZO m hB
 clear m
 replace hB := Ze hB t
 refine Zw (.int .i64 0) rfl <| cT <| Al <| Zr <| Zy (gE (enc := eK) (encV := Value.bool) fun d W8 o p g => ?_)
 have u := ZO o hB
 clear o
 replace hB := Ze hB p
 replace b := p.at b
 replace g : dR eK Value.bool _ _ (ft []) := g
 refine Zw (.map (some d)) rfl <| cT <| Zr <| Zw (.int .i64 0) rfl <| cT <| cY fun N x => AM <| x _ _ <| cY fun O y => Zr <| Zf rfl eq <| ZL rv rfl fk b rfl <| Zv (dA (v := rv) rfl ((Below.ow hB hrv)).sl eb) <| Zw (.int .i64 0) rfl ?_
 refine cT <| c7 ?_
 refine dw (σ := (Nat)) [4, 6, 8, 10, 15, 16, 17, 18, 19, 20, 21, 22, 23, 24, 25, 26, 27, 28, 29, 30, 31, 32, 33, 34, 35, 36, 37, 38, 39, 40] (fun i => [(15, .int .i64 (i : Int)), (4, .int .i64 (Aw L i : Int))]) (fun i W => (Below w.heap.size w W) ∧ (At W h _ 77) ∧ (dR eK Value.bool W d (ft (wT L i))) ∧ (i ≤ L.length) ∧ (True)) (fun i => L.length - i) (0) ⟨rfl, rfl, trivial⟩ ⟨hB, b, g, (Nat.zero_le _), trivial⟩ ?_
 clear hB b g
 rintro i P Q ⟨hB, b, hmu, hi, _⟩ R r
 refine Zr <| Zv (dL rfl rfl) <| cT <| cY fun S z => ZQ rfl (fun A => ?_) fun A => ?_
 refine c9 <| z _ _ <| cY fun T s => c7 <| Zr <| Zv (dJ (v := rv) rfl ((Below.ow hB hrv)).sl rfl eb Om Om) <| Zv (dk (v := (vs.getD i undef)) rfl iO (dM.cell ((Below.ow hB hrv)).sl fW undef Om Om 0 rfl)) ?_
 have e : dM d9 1 w ((vs.getD i undef)) (L.getD i []) := hll.get i (by omega)
 refine Zw (vs.getD i undef) rfl <| cT <| cY fun U B => Zr <| Zw (vs.getD i undef) rfl <| Zv (dA (v := (vs.getD i undef)) rfl (Below.slT hB e) du) <| Zw (.int .i64 0) rfl <| cT <| c7 ?_
 refine dw (σ := (Nat)) [8, 21, 22, 23, 24, 25, 26, 27, 28] (fun j => [(21, .int .i64 (j : Int))]) (fun j W => (Below w.heap.size w W) ∧ (At W h _ 77) ∧ (dR eK Value.bool W d _) ∧ (j ≤ (L.getD i []).length) ∧ (∀ q, q < j → (g6 (ft (wT L i)) ((L.getD i []).getD q 0)).getD false = false) ∧ (True)) (fun j => (L.getD i []).length - j) (0) ⟨rfl, trivial⟩ ⟨hB, b, hmu, (Nat.zero_le _), ff, trivial⟩ ?_
 clear hB b hmu
 rintro j V X ⟨hB, b, hmu, hj, hq, _⟩ Y C
 have hri := fJ hr i
 have hbl := Dg L i
 refine Zr <| Zv (dL rfl rfl) <| cT <| cY fun Z D => ZQ rfl (fun E => ?_) fun E => ?_
 refine c9 <| D _ _ <| cY fun aa F => c7 <| Zr <| Zv (dJ (v := (vs.getD i undef)) rfl (Below.slT hB e) rfl du Om Om) <| Zv (dk (v := .int .i64 _) rfl dB (dM.cell (Below.slT hB e) eD 0 Om Om 0 rfl)) <| Zi rfl <| cT <| Zr <| Zw (.map (some d)) rfl <| Zi rfl <| Zv (fR (enc := eK) (encV := Value.bool) (v0 := false) (k := ((L.getD i []).getD j 0)) rfl rfl na gI (fun a => ⟨a, rfl⟩) fS oN rfl hmu) <| cT ?_
 refine ZQ rfl (fun f => ?_) fun f => ?_
 refine dr <| s _ _ ?_
 skip
 refine cZ <| Zv (dp rfl rfl Om Om) <| Zi rfl <| cT ?_
 exact r _ _ (i + 1) Za ⟨rfl, Qa (JP Om f), trivial⟩ ⟨hB, b, (by first | (rw [Mr (JP Om f)]; exact hmu) | (rw [Mp hno]; exact hmu)), Om, trivial⟩ Zo
 refine c9 <| F _ _ <| cZ <| Zv (dp rfl rfl Om Om) <| Zi rfl <| cT ?_
 exact C _ _ (j + 1) Za ⟨rfl, trivial⟩ ⟨hB, b, hmu, Om, (ey hq f), trivial⟩ Zo
 refine dr <| B _ _ ?_
 have hno := NH (by omega) hq
 refine Zr <| Zi rfl <| Zv (dp rfl rfl Om Om) <| Zi rfl <| cT <| Zr <| Zw (vs.getD i undef) rfl <| Zv (dA (v := (vs.getD i undef)) rfl (Below.slT hB e) du) <| Zw (.int .i64 0) rfl <| cT <| c7 ?_
 refine dw (σ := (Nat)) [10, 33, 34, 35, 36, 37, 38, 39] (fun j => [(33, .int .i64 (j : Int))]) (fun j W => (Below w.heap.size w W) ∧ (At W h _ 77) ∧ (dR eK Value.bool W d (ft (o4 (wT L i) (L.getD i []) j))) ∧ (j ≤ (L.getD i []).length) ∧ (True)) (fun j => (L.getD i []).length - j) (0) ⟨rfl, trivial⟩ ⟨hB, b, hmu, (Nat.zero_le _), trivial⟩ ?_
 clear hB b hmu
 rintro j ab ac ⟨hB, b, hmu2, hj, _⟩ ad G
 refine Zr <| Zv (dL rfl rfl) <| cT <| cY fun ae H => ZQ rfl (fun I => ?_) fun I => ?_
 refine c9 <| H _ _ <| cY fun af J => c7 <| Zr <| Zv (dJ (v := (vs.getD i undef)) rfl (Below.slT hB e) rfl du Om Om) <| Zv (dk (v := .int .i64 _) rfl dB (dM.cell (Below.slT hB e) eD 0 Om Om 0 rfl)) <| Zi rfl <| cT <| cZ <| Zw (.map (some d)) rfl <| Zi rfl ?_
 refine gS (dd := none) rfl rfl rfl (fI (enc := eK) (encV := Value.bool) (k := ((L.getD i []).getD j 0)) (v := true) rfl rfl rfl na gI (fun a => ⟨a, rfl⟩) fS hmu2 (fun ag l K => ?_))
 replace hB := Zg hB l u
 replace b := At.grownMap b hmu2 l
 clear l hmu2
 replace hmu2 := K
 rw [jj] at hmu2
 refine cT <| J _ _ <| cZ <| Zv (dp rfl rfl Om Om) <| Zi rfl <| cT ?_
 exact G _ _ (j + 1) Za ⟨rfl, trivial⟩ ⟨hB, b, (by exact hmu2), Om, trivial⟩ Zo
 refine dr <| s _ _ ?_
 obtain rfl : j = (L.getD i []).length := by omega
 refine cZ <| Zv (dp rfl rfl Om Om) <| Zi rfl <| cT ?_
 exact r _ _ (i + 1) Za ⟨rfl, PV hno, trivial⟩ ⟨hB, b, (by first | (rw [Mr (JP Om f)]; exact hmu2) | (rw [Mp hno]; exact hmu2)), Om, trivial⟩ Zo
 refine dr <| y _ _ <| Zr <| Zi rfl <| Zi rfl <| cT <| Zt <| dE (v := .int .i64 _) rfl ⟨hB, ?_⟩
 obtain rfl : i = L.length := by omega
 rfl
theorem nS (n : Int) (rv : Value) (vs : List Value) (L : ML) (c : Int) (w : World) (hrv : dh encV 1 80 w 0 rv vs) (hLO : LO 3 0 w vs L) (hr : dX n L = true) (hLb : L.length ≤ 1000000) :
    Fn Tryz.prog 84 #[.agg #[.int .i64 n, rv], .int .i64 c] w fun v w' => ∃ rv', v = .agg #[.int .i64 n, rv'] ∧ dh encV 1 80 w' 0 rv' (rg undef (fun k => !decide (c ∈ L.getD k [])) vs L.length) := by
 refine dq (n := 44) Tryz.func84 rfl rfl (Nat.le_of_ble_eq_true rfl) ?_
 have hB : Below w.heap.size w w := Below.refl _ _
 have hll := hLO.ll
 have hvl := hll.len
 refine Zr <| Zy (dU (c := #[_, _]) rfl rfl fun B W3 C P a => ?_)
 have ac := ZO C hB
 clear C
 replace hB := Ze hB P
 refine Zy (dt ia rfl fun D W6 r E d => ?_)
 have Q := ZO r hB
 have R := Zn r a.lt
 clear r
 replace hB := Ze hB E
 replace a := E.at a
 refine cT <| Zr <| Zf rfl iy <| Zl rfl dB a rfl <| Zv (kn (h0 := rfl) (k0 := rfl) (c0_0 := .int .i64 _)) <| Zy (dt ia rfl fun F ad l s e => ?_)
 have G := ZO l hB
 have H := Zn l a.lt
 have t := Zn l d.lt
 clear l
 replace hB := Ze hB s
 replace a := s.at a
 replace d := s.at d
 refine Zy (dg rfl rfl dH rfl e rfl rfl fun ae y S => ?_)
 replace hB := Zg hB y G
 replace a := At.grownNe a H y
 replace d := At.grownNe d t y
 replace e := S
 refine cT <| cY fun af T => Zr <| Zf rfl eq <| ZL rv rfl fk a rfl <| Zv (dA (v := rv) rfl ((Below.ow hB hrv)).sl eb) <| Zw (.int .i64 0) rfl <| cT <| c7 ?_
 refine dw (σ := (Nat) × (Value)) [7, 8, 10, 17, 18, 19, 20, 21, 22, 23, 24, 25, 26, 27, 28, 29, 30, 31, 32, 33, 34, 35, 36, 37, 38, 39, 40, 41, 42] (fun (k, v0) => [(17, .int .i64 (k : Int))]) (fun sg W => match sg with | (k, v0) => (Below w.heap.size w W) ∧ (At W B _ 77) ∧ (At W D _ 77) ∧ (At W F #[.int .i64 n, v0] 77) ∧ (dh encV 1 80 W w.heap.size v0 (rg undef (fun k => !decide (c ∈ L.getD k [])) vs k)) ∧ (k ≤ L.length) ∧ (True)) (fun (k, v0) => L.length - k) ((0, .slice none 0 0)) ⟨rfl, trivial⟩ ⟨hB, a, d, e, dh.nil, (Nat.zero_le _), trivial⟩ ?_
 clear hB a d e
 rintro ⟨k, v0⟩ ag ah ⟨hB, a, d, e, ho, hk, _⟩ ai I
 refine Zr <| Zv (dL rfl rfl) <| cT <| cY fun aj U => ZQ rfl (fun V => ?_) fun V => ?_
 refine c9 <| U _ _ <| cY fun ak J => c7 <| Zr <| Zv (dJ (v := rv) rfl ((Below.ow hB hrv)).sl rfl eb Om Om) <| Zv (dk (v := (vs.getD k undef)) rfl iO (dM.cell ((Below.ow hB hrv)).sl fW undef Om Om 0 rfl)) ?_
 have h : dM d9 1 w ((vs.getD k undef)) (L.getD k []) := hll.get k (by omega)
 refine Zw (vs.getD k undef) rfl <| cT <| Zr <| Zw (.bool false) rfl <| cT <| cY fun al X => Zr <| Zw (vs.getD k undef) rfl <| Zv (dA (v := (vs.getD k undef)) rfl (Below.slT hB h) du) <| Zw (.int .i64 0) rfl <| cT <| c7 ?_
 refine dw (σ := (Nat)) [8, 10, 23, 24, 25, 26, 27, 28, 29, 30, 31, 32, 33] (fun j => [(23, .int .i64 (j : Int)), (8, .bool (decide (c ∈ (L.getD k []).take j)))]) (fun j W => (Below w.heap.size w W) ∧ (At W B _ 77) ∧ (At W D _ 77) ∧ (At W F _ 77) ∧ (dh encV 1 80 W w.heap.size v0 _) ∧ (j ≤ (L.getD k []).length) ∧ (True)) (fun j => (L.getD k []).length - j) (0) ⟨rfl, rfl, trivial⟩ ⟨hB, a, d, e, ho, (Nat.zero_le _), trivial⟩ ?_
 clear hB a d e ho
 rintro j ao ap ⟨hB, a, d, e, ho, hj, _⟩ aq K
 have hri := fJ hr k
 refine Zr <| Zv (dL rfl rfl) <| cT <| cY fun ar Y => ZQ rfl (fun Z => ?_) fun Z => ?_
 refine c9 <| Y _ _ <| cY fun au M => c7 <| Zr <| Zv (dJ (v := (vs.getD k undef)) rfl (Below.slT hB h) rfl du Om Om) <| Zv (dk (v := .int .i64 _) rfl dB (dM.cell (Below.slT hB h) eD 0 Om Om 0 rfl)) <| Zi rfl <| cT <| cZ <| Zb rfl <| ZX rfl (fun z => ?_) fun z => ?_
 refine Zs <| Zs <| Zs <| Zw (.bool true) rfl <| Zw (.bool true) rfl <| cT <| M _ _ <| cZ <| Zv (dp rfl rfl Om Om) <| Zi rfl <| cT ?_
 exact K _ _ (j + 1) Za ⟨rfl, QK z, trivial⟩ ⟨hB, a, d, e, ho, Om, trivial⟩ Zo
 refine Zi rfl <| Zi rfl <| Zv (eB rfl rfl) <| Zb rfl <| Zb rfl <| cT <| M _ _ <| cZ <| Zv (dp rfl rfl Om Om) <| Zi rfl <| cT ?_
 exact K _ _ (j + 1) Za ⟨rfl, QA Om z, trivial⟩ ⟨hB, a, d, e, ho, Om, trivial⟩ Zo
 refine dr <| X _ _ ?_
 obtain rfl : j = (L.getD k []).length := by omega
 refine Zr <| Zb rfl <| Zv (fy rfl) <| cT <| ZQ rfl (fun f => ?_) fun f => ?_
 have hkl := zy undef (fun k => !decide (c ∈ L.getD k [])) vs k
 refine cZ <| Zf rfl eq <| ZL v0 rfl fk e rfl <| Zw (vs.getD k undef) rfl <| Zy (fc (u := (vs.getD k undef)) rfl eb jb (by rw [dM.cells (Below.slT hB h)]; rfl) Dd Dd fun A av m i N => ?_)
 have aw := ZO m hB
 have ax := dh.neB (b := A) (Below.ow hB hrv) (Nat.le_of_eq m.symm)
 have ay := dh.neB (b := A) ho (Nat.le_of_eq m.symm)
 clear m
 replace hB := Ze hB i
 replace a := i.at a
 replace d := i.at d
 replace e := i.at e
 replace ho := i.ow ho
 rw [dM.cells (Below.slT hB h)] at N
 refine Zy (ez (v := v0) (v2 := .slice (some ⟨A, 0, none⟩) 1 1) rfl rfl eb jb Dd ho (fG N rfl) (by simp only [List.all_cons, List.all_nil, dM.one (Below.slT hB h), Bool.and_true]) (by have := Below.size hB; omega) (by first | omega | (simp; omega)) (by first | omega | (simp; omega)) fun O az o g => ?_)
 replace g := dh.snoc (enc := encV) (x := (vs.getD k undef)) rfl rfl rfl rfl g
 replace hB := ZG hB o ho
 replace a := At.grownOw a ho o Dd
 replace d := At.grownOw d ho o Dd
 replace e := At.grownOw e ho o Dd
 clear ho
 refine Zf rfl eq <| Zy (eC (v := O) rfl rfl fk (dM.one g.sl) e (by simp) fun aA p aa => ?_)
 replace hB := Zg hB p G
 replace a := At.grownNe a H p
 replace d := At.grownNe d t p
 replace g := dh.grownAt g e p Dd
 replace e := aa
 replace e : At _ _ #[_, _] _ := e
 refine cT <| J _ _ <| cZ <| Zv (dp rfl rfl Om Om) <| Zi rfl <| cT ?_
 exact I _ _ ((k + 1, O)) Za ⟨rfl, trivial⟩ ⟨hB, a, d, (by exact e), (by first | (rw [← EI (by rw [List.take_length] at f; exact f)]; exact g) | (rw [← Fc (by rw [List.take_length] at f; exact f)]; exact g)), Om, trivial⟩ (by show L.length - (k + 1) < L.length - k; omega)
 refine c9 <| J _ _ <| cZ <| Zv (dp rfl rfl Om Om) <| Zi rfl <| cT ?_
 exact I _ _ ((k + 1, v0)) Za ⟨rfl, trivial⟩ ⟨hB, a, d, (by exact e), (by first | (rw [← EI (by rw [List.take_length] at f; exact f)]; exact ho) | (rw [← Fc (by rw [List.take_length] at f; exact f)]; exact ho)), Om, trivial⟩ (by show L.length - (k + 1) < L.length - k; omega)
 refine dr <| T _ _ <| Zr <| Zv (db rfl dH rfl e) <| Zy (dg rfl rfl dH rfl d rfl (by exact ib (dh.one ho)) fun aB q ab => ?_)
 replace hB := Zg hB q Q
 replace a := At.grownNe a R q
 replace e := At.grownNe e (Ne.symm t) q
 replace ho := dh.grownAt ho d q Dd
 replace d := ab
 refine cT <| Zt <| jD rfl dH d rfl ⟨hB, ?_⟩
 obtain rfl : k = L.length := by omega
 exact ⟨_, rfl, dh.mono ho (Nat.zero_le _)⟩
theorem w9 (n : Int) (rv : Value) (vs : List Value) (L : ML) (c : Int) (w : World) (hrv : dh encV 1 80 w 0 rv vs) (hLO : LO 3 0 w vs L) (hr : dX n L = true) (hLb : L.length ≤ 1000000) :
    Fn Tryz.prog 83 #[.agg #[.int .i64 n, rv], .int .i64 c] w fun v w' => ∃ rv' vs', v = .agg #[.int .i64 n, rv'] ∧ dh encV 1 80 w' 0 rv' vs' ∧ LO 3 w.heap.size w' vs' (oa L c) := by
 refine dq (n := 43) Tryz.func83 rfl rfl (Nat.le_of_ble_eq_true rfl) ?_
 have hB : Below w.heap.size w w := Below.refl _ _
 have hll := hLO.ll
 have hvl := hll.len
 refine Zr <| Zy (dU (c := #[_, _]) rfl rfl fun Q W3 E R a => ?_)
 have ap := ZO E hB
 clear E
 replace hB := Ze hB R
 refine Zy (dt ia rfl fun S W6 t F e => ?_)
 have T := ZO t hB
 have U := Zn t a.lt
 clear t
 replace hB := Ze hB F
 replace a := F.at a
 refine cT <| Zr <| Zf rfl iy <| Zl rfl dB a rfl <| Zv (kn (h0 := rfl) (k0 := rfl) (c0_0 := .int .i64 _)) <| Zy (dt ia rfl fun V aq p y d => ?_)
 have G := ZO p hB
 have H := Zn p a.lt
 have z := Zn p e.lt
 clear p
 replace hB := Ze hB y
 replace a := y.at a
 replace e := y.at e
 refine Zy (dg rfl rfl dH rfl d rfl rfl fun ar A X => ?_)
 replace hB := Zg hB A G
 replace a := At.grownNe a H A
 replace e := At.grownNe e z A
 replace d := X
 refine cT <| cY fun au Y => Zr <| Zf rfl eq <| ZL rv rfl fk a rfl <| Zv (dA (v := rv) rfl ((Below.ow hB hrv)).sl eb) <| Zw (.int .i64 0) rfl <| cT <| c7 ?_
 refine dw (σ := (Nat) × (Value) × (List Value)) [7, 8, 10, 17, 18, 19, 20, 21, 22, 23, 24, 25, 26, 27, 28, 29, 30, 31, 32, 33, 34, 35, 36, 37, 38, 39, 40, 41] (fun (k, v0, vn) => [(17, .int .i64 (k : Int))]) (fun sg W => match sg with | (k, v0, vn) => (Below w.heap.size w W) ∧ (At W Q _ 77) ∧ (At W S _ 77) ∧ (At W V #[.int .i64 n, v0] 77) ∧ (dh encV 1 80 W w.heap.size v0 (vn)) ∧ (LO 3 w.heap.size W vn (oa (L.take k) c)) ∧ (k ≤ L.length) ∧ (True)) (fun (k, v0, vn) => L.length - k) ((0, .slice none 0 0, [])) ⟨rfl, trivial⟩ ⟨hB, a, e, d, dh.nil, LO.nil, (Nat.zero_le _), trivial⟩ ?_
 clear hB a e d
 rintro ⟨k, v0, vn⟩ av l ⟨hB, a, e, d, ho, hlo, hk, _⟩ aw Z
 refine Zr <| Zv (dL rfl rfl) <| cT <| cY fun ax aa => ZQ rfl (fun ab => ?_) fun ab => ?_
 refine c9 <| aa _ _ <| cY fun ay ac => c7 <| Zr <| Zv (dJ (v := rv) rfl ((Below.ow hB hrv)).sl rfl eb Om Om) <| Zv (dk (v := (vs.getD k undef)) rfl iO (dM.cell ((Below.ow hB hrv)).sl fW undef Om Om 0 rfl)) ?_
 have ad : dM d9 1 w ((vs.getD k undef)) (L.getD k []) := hll.get k (by omega)
 refine Zw (vs.getD k undef) rfl <| cT ?_
 have ae := Below.ow hB hrv
 have af := LO.below hB hLO
 have q := Below.slT hB ad
 have B := hB
 replace hB := Below.refl l.heap.size l
 refine Zr <| Zw (.slice none 0 0) rfl <| cT <| cY fun az ag => Zr <| Zw (vs.getD k undef) rfl <| Zv (dA (v := (vs.getD k undef)) rfl (Below.slT hB q) du) <| Zw (.int .i64 0) rfl <| cT <| c7 ?_
 refine dw (σ := (Nat) × (Value)) [8, 10, 23, 24, 25, 26, 27, 28, 29, 30, 31, 32, 33, 34] (fun (j, v1) => [(23, .int .i64 (j : Int)), (8, v1)]) (fun sg W => match sg with | (j, v1) => (Below l.heap.size l W) ∧ (dh d9 1 3 W l.heap.size v1 (yn ((L.getD k []).take j) c)) ∧ (j ≤ (L.getD k []).length) ∧ (True)) (fun (j, v1) => (L.getD k []).length - j) ((0, .slice none 0 0)) ⟨rfl, rfl, trivial⟩ ⟨hB, dh.nil, (Nat.zero_le _), trivial⟩ ?_
 clear hB
 rintro ⟨j, v1⟩ aA aB ⟨hB, hrst, hj, _⟩ aC I
 refine Zr <| Zv (dL rfl rfl) <| cT <| cY fun aD ah => ZQ rfl (fun ai => ?_) fun ai => ?_
 refine c9 <| ah _ _ <| cY fun aE J => c7 ?_
 have hrl := DJ (L.getD k []) c j
 have hr4 := fJ hr k
 refine Zr <| Zv (dJ (v := (vs.getD k undef)) rfl (Below.slT hB q) rfl du Om Om) <| Zv (dk (v := .int .i64 _) rfl dB (dM.cell (Below.slT hB q) eD 0 Om Om 0 rfl)) <| Zi rfl <| cT <| Zr <| Zi rfl <| Zi rfl <| Zv (f7 rfl rfl) <| cT <| ZQ rfl (fun m => ?_) fun m => ?_
 refine cZ <| Zw v1 rfl <| Zi rfl <| Zy (fc (u := .int .i64 _) rfl du fv rfl Dd Dd fun K aF C M aj => ?_)
 have aG := ZO C hB
 have aH := dh.neB (b := K) hrst (Nat.le_of_eq C.symm)
 clear C
 replace hB := Ze hB M
 replace hrst := M.ow hrst
 refine Zy (ez (v := v1) (v2 := .slice (some ⟨K, 0, none⟩) 1 1) rfl rfl du fv Dd hrst (fG aj rfl) rfl (by have := Below.size hB; omega) (by first | omega | (simp; omega)) (by first | omega | (simp; omega)) fun N aI ak r => ?_)
 replace r := dh.snoc (enc := d9) (x := _) rfl rfl rfl rfl r
 replace hB := ZG hB ak hrst
 clear hrst
 refine Zw N rfl <| cT <| J _ _ <| cZ <| Zv (dp rfl rfl Om Om) <| Zi rfl <| cT ?_
 exact I _ _ ((j + 1, N)) Za ⟨rfl, rfl, trivial⟩ ⟨hB, (by first | (rw [← E2 (k := j) Om m]; exact r) | (rw [← Eu (k := j) Om (Decidable.of_not_not m)]; exact r)), Om, trivial⟩ (by show (L.getD k []).length - (j + 1) < (L.getD k []).length - j; omega)
 refine c9 <| J _ _ <| cZ <| Zv (dp rfl rfl Om Om) <| Zi rfl <| cT ?_
 exact I _ _ ((j + 1, v1)) Za ⟨rfl, rfl, trivial⟩ ⟨hB, (by first | (rw [← E2 (k := j) Om m]; exact hrst) | (rw [← Eu (k := j) Om (Decidable.of_not_not m)]; exact hrst)), Om, trivial⟩ (by show (L.getD k []).length - (j + 1) < (L.getD k []).length - j; omega)
 refine dr <| ag _ _ ?_
 try clear ae
 try clear af
 replace a := Below.atI hB a
 replace e := Below.atI hB e
 replace d := Below.atI hB d
 replace ho := Below.ow hB ho
 replace hlo := LO.below hB hlo
 try clear q
 have hzs := Nat.le_trans (Nat.le_refl _) (Below.size B)
 replace hrst := dh.mono hrst hzs
 replace hB := Below.trans B (Below.mono hB hzs)
 clear B hzs
 obtain rfl : j = (L.getD k []).length := by omega
 rw [List.take_length] at hrst
 have hcl := EF L c k
 have hvn := hlo.len
 refine cZ <| Zf rfl eq <| ZL v0 rfl fk d rfl <| Zw v1 rfl <| Zy (fc (u := v1) rfl eb jb (by rw [dM.cells hrst.sl]; rfl) Dd Dd fun D aJ s f O => ?_)
 have aK := ZO s hB
 have aL := dh.neB (b := D) (Below.ow hB hrv) (Nat.le_of_eq s.symm)
 have aM := dh.neB (b := D) ho (Nat.le_of_eq s.symm)
 clear s
 replace a := f.at a
 replace e := f.at e
 replace d := f.at d
 replace ho := f.ow ho
 replace hlo := LO.ext f hlo
 replace hB := Ze hB f
 replace hrst := f.ow hrst
 rw [dM.cells hrst.sl] at O
 refine Zy (ez (v := v0) (v2 := .slice (some ⟨D, 0, none⟩) 1 1) rfl rfl eb jb Dd ho (fG O rfl) (by first | exact DY (dh.one hrst) | (rw [dM.cells hrst.sl]; exact DY (dh.one hrst))) (by have := Below.size hB; omega) (by first | omega | (simp; omega)) (by first | omega | (simp; omega)) fun P aN g h => ?_)
 replace h := dh.snoc (enc := encV) (x := v1) rfl rfl rfl rfl h
 replace a := At.grownOw a ho g Dd
 replace e := At.grownOw e ho g Dd
 replace d := At.grownOw d ho g Dd
 replace hlo := LO.grownOw hlo ho g Dd
 replace hB := ZG hB g ho
 replace hrst := dh.grownOw hrst ho g Dd
 clear ho
 refine Zf rfl eq <| Zy (eC (v := P) rfl rfl fk (dM.one h.sl) d (by simp) fun aO i al => ?_)
 replace a := At.grownNe a H i
 replace e := At.grownNe e z i
 replace hlo := LO.grownAt hlo d i Dd
 replace hB := Zg hB i G
 replace hrst := dh.grownAt hrst d i Dd
 replace h := dh.grownAt h d i Dd
 replace d := al
 replace d : At _ _ #[_, _] _ := d
 refine cT <| ac _ _ <| cZ <| Zv (dp rfl rfl Om Om) <| Zi rfl <| cT ?_
 exact Z _ _ ((k + 1, P, vn ++ [v1])) Za ⟨rfl, trivial⟩ ⟨hB, a, e, (by exact d), (by exact h), (by rw [← Bt Om]; exact LO.snoc hlo hrst), Om, trivial⟩ (by show L.length - (k + 1) < L.length - k; omega)
 refine dr <| Y _ _ <| Zr <| Zv (db rfl dH rfl d) <| Zy (dg rfl rfl dH rfl e rfl (by exact ib (dh.one ho)) fun aP o ao => ?_)
 replace hB := Zg hB o T
 replace a := At.grownNe a U o
 replace d := At.grownNe d (Ne.symm z) o
 replace ho := dh.grownAt ho e o Dd
 replace hlo := LO.grownAt hlo e o Dd
 replace e := ao
 refine cT <| Zt <| jD rfl dH e rfl ⟨hB, ?_⟩
 exact ⟨_, _, rfl, dh.mono ho (Nat.zero_le _), by rw [← zf (k := k) Om]; exact hlo⟩
theorem nB (n : Int) (rv : Value) (vs : List Value) (L : ML) (w : World) (hrv : dh encV 1 80 w 0 rv vs) (hLO : LO 3 0 w vs L) (hr : dX n L = true) (hLb : L.length ≤ 1000000) :
    Fn Tryz.prog 82 #[.agg #[.int .i64 n, rv]] w fun v w' => ∃ c, v = .int .i64 c ∧ ((∃ k, k < L.length ∧ 0 < (L.getD k []).length) → qv L c) := by
 refine dq (n := 61) Tryz.func82 rfl rfl (Nat.le_of_ble_eq_true rfl) ?_
 have hB : Below w.heap.size w w := Below.refl _ _
 have hll := hLO.ll
 have hvl := hll.len
 refine Zr <| Zy (dU (c := #[_, _]) rfl rfl fun q W3 y C b => ?_)
 have Z := ZO y hB
 clear y
 replace hB := Ze hB C
 refine Zw (.int .i64 0) rfl <| cT <| Zr <| Zy (gE (enc := eK) (encV := eK) fun f W8 z A o => ?_)
 have D := ZO z hB
 clear z
 replace hB := Ze hB A
 replace b := A.at b
 replace o : dR eK eK _ _ [] := o
 refine Zw (.map (some f)) rfl <| cT <| Zr <| Zi rfl <| cT <| cY fun aa E => Zr <| Zf rfl eq <| ZL rv rfl fk b rfl <| Zv (dA (v := rv) rfl ((Below.ow hB hrv)).sl eb) <| Zw (.int .i64 0) rfl <| cT <| c7 ?_
 refine dw (σ := (Nat) × (List (Int × Int))) [6, 8, 15, 16, 17, 18, 19, 20, 21, 22, 23, 24, 25, 26, 27, 28, 29, 30] (fun (i, l) => [(15, .int .i64 (i : Int))]) (fun sg W => match sg with | (i, l) => (Below w.heap.size w W) ∧ (At W q _ 77) ∧ (dR eK eK W f l) ∧ (i ≤ L.length) ∧ (wQ L i (i * 4001) l) ∧ (True)) (fun (i, l) => L.length - i) ((0, [])) ⟨rfl, trivial⟩ ⟨hB, b, o, (Nat.zero_le _), (wQ.mono wQ.nil Om), trivial⟩ ?_
 clear hB b o
 rintro ⟨i, l⟩ ab ac ⟨hB, b, hmc, hi, g, _⟩ ad F
 refine Zr <| Zv (dL rfl rfl) <| cT <| cY fun ae G => ZQ rfl (fun H => ?_) fun H => ?_
 refine c9 <| G _ _ <| cY fun af I => c7 <| Zr <| Zv (dJ (v := rv) rfl ((Below.ow hB hrv)).sl rfl eb Om Om) <| Zv (dk (v := (vs.getD i undef)) rfl iO (dM.cell ((Below.ow hB hrv)).sl fW undef Om Om 0 rfl)) ?_
 have r : dM d9 1 w ((vs.getD i undef)) (L.getD i []) := hll.get i (by omega)
 refine Zw (vs.getD i undef) rfl <| cT <| Zr <| Zw (vs.getD i undef) rfl <| Zv (dA (v := (vs.getD i undef)) rfl (Below.slT hB r) du) <| Zw (.int .i64 0) rfl <| cT <| c7 ?_
 refine dw (σ := (Nat) × (List (Int × Int))) [8, 21, 22, 23, 24, 25, 26, 27, 28, 29] (fun (j, l2) => [(21, .int .i64 (j : Int))]) (fun sg W => match sg with | (j, l2) => (Below w.heap.size w W) ∧ (At W q _ 77) ∧ (dR eK eK W f l2) ∧ (j ≤ (L.getD i []).length) ∧ (wQ L i (i * 4001 + j) l2) ∧ (0 < j → l2 ≠ []) ∧ (True)) (fun (j, l2) => (L.getD i []).length - j) ((0, l)) ⟨rfl, trivial⟩ ⟨hB, b, hmc, (Nat.zero_le _), (wQ.mono g Om), (fun h => absurd h (Nat.lt_irrefl _)), trivial⟩ ?_
 clear hB b hmc
 rintro ⟨j, l2⟩ ag ah ⟨hB, b, hmc2, hj, hbu, hne, _⟩ ai J
 have hri := fJ hr i
 refine Zr <| Zv (dL rfl rfl) <| cT <| cY fun aj K => ZQ rfl (fun M => ?_) fun M => ?_
 refine c9 <| K _ _ <| cY fun ak N => c7 <| Zr <| Zv (dJ (v := (vs.getD i undef)) rfl (Below.slT hB r) rfl du Om Om) <| Zv (dk (v := .int .i64 _) rfl dB (dM.cell (Below.slT hB r) eD 0 Om Om 0 rfl)) <| Zi rfl <| cT ?_
 have hgl := hbu.get ((L.getD i []).getD j 0)
 refine cZ <| Zw (.map (some f)) rfl <| Zi rfl <| Zv (fR (enc := eK) (encV := eK) (v0 := 0) (k := ((L.getD i []).getD j 0)) rfl rfl pe gI (fun a => ⟨a, rfl⟩) fS tN rfl hmc2) <| Zv (dp rfl rfl Om Om) ?_
 refine gS (dd := none) rfl rfl rfl (fI (enc := eK) (encV := eK) (k := ((L.getD i []).getD j 0)) (v := _) rfl rfl rfl pe gI (fun a => ⟨a, rfl⟩) fS hmc2 (fun al s O => ?_))
 replace hB := Zg hB s D
 replace b := At.grownMap b hmc2 s
 clear s hmc2
 replace hmc2 := O
 refine cT <| N _ _ <| cZ <| Zv (dp rfl rfl Om Om) <| Zi rfl <| cT ?_
 exact J _ _ ((j + 1, g7 l2 ((L.getD i []).getD j 0) ((g6 l2 ((L.getD i []).getD j 0)).getD 0 + 1))) Za ⟨rfl, trivial⟩ ⟨hB, b, (by exact hmc2), Om, (wQ.mono (wQ.put hbu Om Om) Om), (fun _ => D7), trivial⟩ (by show (L.getD i []).length - (j + 1) < (L.getD i []).length - j; omega)
 refine dr <| I _ _ <| cZ <| Zv (dp rfl rfl Om Om) <| Zi rfl <| cT ?_
 exact F _ _ ((i + 1, l2)) Za ⟨rfl, trivial⟩ ⟨hB, b, (by exact hmc2), Om, (hbu.next (fun h => hne Om) Om), trivial⟩ (by show L.length - (i + 1) < L.length - i; omega)
 refine dr <| E _ _ <| cY fun ao P => Zr <| Zw (.map (some f)) rfl <| Zy (zv rfl pe hmc fun Q ap B t d => ?_)
 have R := ZO B hB
 clear B
 replace hB := Ze hB t
 replace b := t.at b
 replace hmc := t.mapT hmc
 refine cT <| c7 ?_
 refine dw (σ := (List Int) × (Int)) [4, 9, 10, 33, 34, 35, 36, 37, 38, 39, 40, 41, 42, 43, 44, 45, 46, 47, 48, 49, 50, 51, 52, 53, 54, 55, 56, 57, 58, 59] (fun (seen, bb) => [(4, .int .i64 bb)]) (fun sg W => match sg with | (seen, bb) => (Below w.heap.size w W) ∧ (At W q _ 77) ∧ (dR eK eK W f _) ∧ (eJ eK eK W Q f l seen) ∧ (PK L seen bb) ∧ (True)) (fun (seen, bb) => l.length - seen.length) (([], -1)) ⟨rfl, trivial⟩ ⟨hB, b, hmc, d, (.inl ⟨rfl, rfl⟩), trivial⟩ ?_
 clear hB b hmc d
 rintro ⟨seen, bb⟩ aq ar ⟨hB, b, hmc, d, hbe, _⟩ au m
 refine Zr ?_
 refine gS (dd := some 33) rfl rfl rfl (Dp rfl d (fun S => ?_) (fun e av aw p ax u T => ?_))
 refine Zv (vO rfl) <| cT <| cY fun ay az => d4 rfl <| dr <| P _ _ ?_
 obtain rfl : i = L.length := by omega
 refine Zr <| Zi rfl <| Zi rfl <| cT <| Zt <| dE (v := .int .i64 _) rfl ⟨hB, ?_⟩
 exact ⟨_, rfl, N5 hbe g rfl S⟩
 replace hB := Zg hB u R
 replace b := At.grownIter b d u
 replace hmc := dR.grownIter hmc d u
 replace d := T
 refine Zv (mz rfl) <| cT <| cY fun aA U => dz rfl <| c9 <| U _ _ <| c7 <| Zr <| Zv (zM rfl d p) <| Zv (dI rfl) <| Zv (dK rfl) <| Zi rfl <| Zi rfl <| cT ?_
 refine Zr <| Zi rfl <| Zv (dL rfl rfl) <| ZX rfl (fun x => ?_) fun x => ?_
 refine Zs <| Zs <| Zs <| Zs <| Zs <| Zw (.bool true) rfl <| Zw (.bool true) rfl <| Zs <| Zs <| Zs <| Zs <| Zs <| Zs <| Zs ?_
 refine Zs <| Zs <| Zs <| Zw (.bool true) rfl <| cT <| dz rfl <| cZ <| Zi rfl <| Zi rfl <| cT ?_
 exact m _ _ ((e :: seen, e)) Za ⟨rfl, trivial⟩ ⟨hB, b, hmc, d, (CJ hr g p), trivial⟩ (by have hle := eJ.len_le d; show l.length - (e :: seen).length < l.length - seen.length; simp only [List.length_cons] at hle ⊢; omega)
 refine Zi rfl <| Zw (.map (some f)) rfl <| Zi rfl <| Zv (fR (enc := eK) (encV := eK) (v0 := 0) (k := _) rfl rfl pe gI (fun a => ⟨a, rfl⟩) fS tN rfl hmc) <| Zv (iQ rfl rfl) <| Zb rfl <| ZX rfl (fun V => ?_) fun V => ?_
 refine Zs <| Zs <| Zs <| Zs <| Zs <| Zs <| Zs <| Zs <| Zs <| Zs <| Zw (.bool true) rfl <| cT <| dz rfl <| cZ ?_
 refine Zi rfl <| Zi rfl <| cT ?_
 exact m _ _ ((e :: seen, e)) Za ⟨rfl, trivial⟩ ⟨hB, b, hmc, d, (CJ hr g p), trivial⟩ (by have hle := eJ.len_le d; show l.length - (e :: seen).length < l.length - seen.length; simp only [List.length_cons] at hle ⊢; omega)
 refine Zi rfl <| Zw (.map (some f)) rfl <| Zi rfl <| Zv (fR (enc := eK) (encV := eK) (v0 := 0) (k := _) rfl rfl pe gI (fun a => ⟨a, rfl⟩) fS tN rfl hmc) <| Zv (eB rfl rfl) <| ZX rfl (fun X => ?_) fun X => ?_
 refine Zi rfl <| Zi rfl <| Zv (dL rfl rfl) <| Zb rfl <| Zb rfl <| cT <| ZQ rfl (fun Y => ?_) fun Y => ?_
 refine cZ <| Zi rfl <| Zi rfl <| cT ?_
 exact m _ _ ((e :: seen, e)) Za ⟨rfl, trivial⟩ ⟨hB, b, hmc, d, (CJ hr g p), trivial⟩ (by have hle := eJ.len_le d; show l.length - (e :: seen).length < l.length - seen.length; simp only [List.length_cons] at hle ⊢; omega)
 refine c9 ?_
 exact m _ _ ((e :: seen, bb)) Za ⟨rfl, trivial⟩ ⟨hB, b, hmc, d, (Hl hbe x), trivial⟩ (by have hle := eJ.len_le d; show l.length - (e :: seen).length < l.length - seen.length; simp only [List.length_cons] at hle ⊢; omega)
 refine Zs <| Zs <| Zs <| Zw (.bool false) rfl <| Zw (.bool false) rfl <| cT <| d4 rfl <| c9 ?_
 exact m _ _ ((e :: seen, bb)) Za ⟨rfl, trivial⟩ ⟨hB, b, hmc, d, (Hl hbe x), trivial⟩ (by have hle := eJ.len_le d; show l.length - (e :: seen).length < l.length - seen.length; simp only [List.length_cons] at hle ⊢; omega)
theorem oO (xl : Value) (l : List Int) (n : Int) (w : World) (hl : dM d9 1 w xl l) (hlb : l.length ≤ 1000000) (hn : 0 ≤ n ∧ n ≤ 4000) :
    Fn Tryz.prog 85 #[xl, .int .i64 n] w fun v w' => dh d9 1 3 w' w.heap.size v (kC l n.toNat) := by
 refine dq (n := 33) Tryz.func85 rfl rfl (Nat.le_of_ble_eq_true rfl) ?_
 have hB : Below w.heap.size w w := Below.refl _ _
 refine Zr <| Zw (.slice none 0 0) rfl <| cT <| Zr <| Zy (gE (enc := eK) (encV := Value.bool) fun c W5 i s e => ?_)
 have t := ZO i hB
 clear i
 replace hB := Ze hB s
 replace e : dR eK Value.bool _ _ (ft []) := e
 refine Zw (.map (some c)) rfl <| cT <| cY fun K8 y => Zr <| Zw xl rfl <| Zv (dA (v := xl) rfl (Below.slT hB hl) du) <| Zw (.int .i64 0) rfl <| cT <| c7 ?_
 refine dw (σ := (Nat)) [7, 13, 14, 15, 16, 17, 18, 19] (fun k => [(13, .int .i64 (k : Int))]) (fun k W => (Below w.heap.size w W) ∧ (dR eK Value.bool W c (ft (o4 [] l k))) ∧ (k ≤ l.length) ∧ (True)) (fun k => l.length - k) (0) ⟨rfl, trivial⟩ ⟨hB, e, (Nat.zero_le _), trivial⟩ ?_
 clear hB e
 rintro k I J ⟨hB, hmk, hk, _⟩ K z
 refine Zr <| Zv (dL rfl rfl) <| cT <| cY fun L A => ZQ rfl (fun B => ?_) fun B => ?_
 refine c9 <| A _ _ <| cY fun M C => c7 <| Zr <| Zv (dJ (v := xl) rfl (Below.slT hB hl) rfl du Om Om) <| Zv (dk (v := .int .i64 _) rfl dB (dM.cell (Below.slT hB hl) eD 0 Om Om 0 rfl)) <| Zi rfl <| cT <| cZ <| Zw (.map (some c)) rfl <| Zi rfl ?_
 refine gS (dd := none) rfl rfl rfl (fI (enc := eK) (encV := Value.bool) (k := (l.getD k 0)) (v := true) rfl rfl rfl na gI (fun a => ⟨a, rfl⟩) fS hmk (fun N j D => ?_))
 replace hB := Zg hB j t
 clear j hmk
 replace hmk := D
 rw [jj] at hmk
 refine cT <| C _ _ <| cZ <| Zv (dp rfl rfl Om Om) <| Zi rfl <| cT ?_
 exact z _ _ (k + 1) Za ⟨rfl, trivial⟩ ⟨hB, (by exact hmk), Om, trivial⟩ Zo
 refine dr <| y _ _ <| Zr <| Zw (.slice none 0 0) rfl <| cT <| cY fun O E => ?_
 obtain rfl : k = l.length := by omega
 refine Zr <| Zi rfl <| Zw (.int .i64 0) rfl <| cT <| c7 ?_
 refine dw (σ := (Nat) × (Value)) [8, 9, 21, 22, 23, 24, 25, 26, 27, 28, 29, 30, 31] (fun (cc, v0) => [(21, .int .i64 (cc : Int)), (8, v0)]) (fun sg W => match sg with | (cc, v0) => (Below w.heap.size w W) ∧ (dR eK Value.bool W c _) ∧ (dh d9 1 3 W w.heap.size v0 (kC (o4 [] l l.length) cc)) ∧ ((cc : Int) ≤ n) ∧ (True)) (fun (cc, v0) => n.toNat - cc) ((0, .slice none 0 0)) ⟨rfl, rfl, trivial⟩ ⟨hB, hmk, dh.nil, Om, trivial⟩ ?_
 clear hB hmk
 rintro ⟨cc, v0⟩ P Q ⟨hB, hmk, ho, hcc, _⟩ R m
 refine Zr <| Zv (dL rfl rfl) <| cT <| cY fun S F => ZQ rfl (fun G => ?_) fun G => ?_
 refine c9 <| F _ _ <| cY fun T o => c7 <| Zr <| Zi rfl <| Zi rfl <| cT <| Zr <| Zw (.map (some c)) rfl <| Zi rfl <| Zv (fR (enc := eK) (encV := Value.bool) (v0 := false) (k := _) rfl rfl na gI (fun a => ⟨a, rfl⟩) fS oN rfl hmk) <| cT <| ZQ rfl (fun d => ?_) fun d => ?_
 refine cZ <| Zw v0 rfl <| Zi rfl <| Zy (fc (u := .int .i64 _) rfl du fv rfl Dd Dd fun p U g h H => ?_)
 have V := ZO g hB
 have X := dh.neB (b := p) ho (Nat.le_of_eq g.symm)
 clear g
 replace hB := Ze hB h
 replace hmk := h.mapT hmk
 replace ho := h.ow ho
 refine Zy (ez (v := v0) (v2 := .slice (some ⟨p, 0, none⟩) 1 1) rfl rfl du fv Dd ho (fG H rfl) rfl (by have := Below.size hB; omega) (by have := lx (o4 [] l l.length) cc; omega) (by have := lx (o4 [] l l.length) cc; omega) fun q Y r f => ?_)
 replace f := dh.snoc (enc := d9) (x := _) rfl rfl rfl rfl f
 replace hB := ZG hB r ho
 replace hmk := dR.grownOw hmk ho r
 clear ho
 refine Zw q rfl <| cT <| o _ _ <| cZ <| Zv (dp rfl rfl Om Om) <| Zi rfl <| cT ?_
 exact m _ _ ((cc + 1, q)) Za ⟨rfl, rfl, trivial⟩ ⟨hB, hmk, (by first | (rw [iX, if_pos (nh d)]; exact f) | (rw [iX, if_neg (lj d)]; exact f)), Om, trivial⟩ (by show n.toNat - (cc + 1) < n.toNat - cc; omega)
 refine c9 <| o _ _ <| cZ <| Zv (dp rfl rfl Om Om) <| Zi rfl <| cT ?_
 exact m _ _ ((cc + 1, v0)) Za ⟨rfl, rfl, trivial⟩ ⟨hB, hmk, (by first | (rw [iX, if_pos (nh d)]; exact ho) | (rw [iX, if_neg (lj d)]; exact ho)), Om, trivial⟩ (by show n.toNat - (cc + 1) < n.toNat - cc; omega)
 refine dr <| E _ _ ?_
 obtain rfl : cc = n.toNat := by omega
 rw [KS] at ho
 refine Zr <| Zw v0 rfl <| Zw v0 rfl <| cT <| Zt <| dE (v := v0) rfl ⟨hB, ?_⟩
 exact ho
end
section
open Go Go.RowKit
theorem GR : dC Tryz.prog 80 = true := by kernel_rfl
theorem Hy : dC Tryz.prog 82 = true := by kernel_rfl
theorem Ih : dC Tryz.prog 84 = true := by kernel_rfl
theorem GG : dC Tryz.prog 85 = true := by kernel_rfl
theorem t4 (n : Int) (rv : Value) (vs : List Value) (L : ML) (w : World) (hrv : dh encV 1 80 w 0 rv vs) (hLO : LO 3 0 w vs L) (hr : dX n L = true) (hLb : L.length ≤ 1000000) (hfu : i5 L L.length = true) :
    Fn Tryz.prog 79 #[.agg #[.int .i64 n, rv]] w fun v w' => ∃ tv T, v = .tuple #[tv, .int .i64 0] ∧ dh d9 1 3 w' w.heap.size tv T ∧ mp L T ∧ T.length ≤ 4000 := by
 refine dq (n := 33) Tryz.func79 rfl rfl (Nat.le_of_ble_eq_true rfl) ?_
 have hB : Below w.heap.size w w := Below.refl _ _
 have hll := hLO.ll
 have hvl := hll.len
 refine Zr <| Zy (dU (c := #[_, _]) rfl rfl fun O W3 B P d => ?_)
 have ak := ZO B hB
 clear B
 replace hB := Ze hB P
 refine Zw (.slice none 0 0) rfl <| Zw (.int .i64 0) rfl <| cT <| cY fun K6 Q => c7 <| Zr <| Zv (db rfl dH rfl d) <| ZC (vs := [.agg #[_, _]]) wC (jE n _ _ L _ ((Below.ow hB hrv)).sl (LO.mono (LO.below hB hLO) (Nat.zero_le _)).ll hLb (fun i => Nat.le_trans (fJ hr i) Dd)) rfl fun al ao C R => ?_
 replace hB := Ze hB C
 replace d := C.at d
 obtain rfl := R
 refine Zv (fy rfl) <| Zb rfl <| cT <| ZQ rfl (fun D => ?_) fun D => ?_
 exact absurd (jc D) (by rw [hr]; decide)
 refine Zr <| Zv (db rfl dH rfl d) <| ZC (vs := [.agg #[_, _]]) GR (m3 n _ _ _ _ (dh.mono (Below.ow hB hrv) (Nat.zero_le _)) (LO.mono (LO.below hB hLO) (Nat.zero_le _)) hLb) rfl fun ap aq E S => ?_
 replace hB := Ze hB E
 replace d := E.at d
 obtain rfl := S
 refine Zv (fy rfl) <| Zb rfl <| cT <| ZQ rfl (fun F => ?_) fun F => ?_
 exact absurd (jc F) (by rw [hfu]; decide)
 refine c9 <| Q _ _ <| Zr <| Zw (.slice none 0 0) rfl <| cT <| Zr <| Zv (db rfl dH rfl d) <| Zy (dt ia rfl fun U ar z G e => ?_)
 have H := ZO z hB
 have I := Zn z d.lt
 clear z
 replace hB := Ze hB G
 replace d := G.at d
 refine Zy (dg rfl rfl dH rfl e rfl (by exact ib (dh.one hrv)) fun au J V => ?_)
 replace hB := Zg hB J H
 replace d := At.grownNe d I J
 replace e := V
 refine cT <| cY fun av X => c7 ?_
 refine dw (σ := (Value) × (List Value) × (ML) × (Value) × (List Int)) [4, 6, 16, 17, 18, 19, 20, 21, 22, 23, 24, 25, 26, 27, 28] (fun (rv1, l, L1, v0, out) => [(4, v0)]) (fun sg W => match sg with | (rv1, l, L1, v0, out) => (Below w.heap.size w W) ∧ (At W O _ 77) ∧ (At W U #[.int .i64 n, rv1] 77) ∧ (dh encV 1 80 W 0 rv1 l) ∧ (dh d9 1 3 W w.heap.size v0 (out)) ∧ (LO 3 0 w l L1) ∧ (GZ n L L1 out) ∧ (L1.length ≤ 1000000) ∧ (True)) (fun (rv1, l, L1, v0, out) => L1.length) ((rv, vs, L, .slice none 0 0, [])) ⟨rfl, trivial⟩ ⟨hB, d, e, (Below.ow hB hrv), dh.nil, hLO, (GZ.start hr hfu), hLb, trivial⟩ ?_
 clear hB d e
 rintro ⟨rv1, l, L1, v0, out⟩ aw ax ⟨hB, d, e, hrw1, ho, hlo1, hgr, hl0, _⟩ ay Y
 refine cY fun az Z => Zr <| Zf rfl eq <| ZL rv1 rfl fk e rfl <| Zv (dA (v := rv1) rfl hrw1.sl eb) <| Zv (iQ rfl rfl) <| cT <| ZQ rfl (fun aa => ?_) fun aa => ?_
 refine c9 <| Z _ _ <| c7 ?_
 have hl1 : L1.length ≤ 1000000 := by have := hgr.len; omega
 refine Zr <| Zv (db rfl dH rfl e) <| ZC (vs := [.agg #[_, _]]) Hy (nB n _ _ L1 _ (dh.mono hrw1 (Nat.le_refl _)) (LO.below hB hlo1) hgr.r hl1) rfl fun aA aB o ab => ?_
 replace hB := Ze hB o
 replace d := o.at d
 replace e := o.at e
 replace hrw1 := o.ow hrw1
 replace ho := o.ow ho
 obtain ⟨c8_1, rfl, ac⟩ := ab
 refine Zw (.int .i64 c8_1) rfl <| cT ?_
 have hcin := hgr.inl (by have := hlo1.len; omega) ac
 have hl1 : L1.length ≤ 1000000 := by have := hgr.len; omega
 refine gx (fun a b => a.grownBy b v0.ownBlock) im (fun ad p => ?_)
 replace hB := Ze hB p
 replace d := p.at d
 replace e := p.at e
 replace hrw1 := p.ow hrw1
 replace ho := p.ow ho
 have ae := ho
 have hS := World.grownBy.refl ad v0.ownBlock
 refine Tw 0 v0 rfl rfl hS <| Tw 1 (.int .i64 c8_1) rfl rfl hS <| Tk 4 rfl (fun _ hq => db rfl dH rfl (At.grownOw e ae hq Dd)) hS <| Tw 5 (.int .i64 c8_1) rfl rfl hS <| To 2 rfl (fc (u := .int .i64 c8_1) rfl du fv rfl Dd Dd fun K aC A f af => ⟨.inl (dD hS (eo.grown f v0.ownBlock)), ?_⟩)
 have aD := ZO A hB
 have aE := dh.neB (b := K) ho (Nat.le_of_eq A.symm)
 clear A
 replace hB := Ze hB f
 replace d := f.at d
 replace e := f.at e
 replace hrw1 := f.ow hrw1
 replace ho := f.ow ho
 replace hS := dD hS (eo.grown f v0.ownBlock)
 refine To 3 rfl (ez (v := v0) (v2 := .slice (some ⟨K, 0, none⟩) 1 1) rfl rfl du fv Dd ho (fG af rfl) rfl (by have := Below.size hB; omega) (by have := hgr.len; omega) (by have := hgr.len; omega) fun M aF m g => ⟨.inl (dD hS m), ?_⟩)
 replace hS := dD hS m
 replace g := dh.snoc (enc := d9) (x := c8_1) rfl rfl rfl rfl g
 replace hB := ZG hB m ho
 replace d := At.grownOw d ho m Dd
 replace e := At.grownOw e ho m Dd
 replace hrw1 := dh.grownOw hrw1 ho m Dd
 clear ho
 refine To 6 rfl (TC (vs := [.agg #[_, _], .int .i64 c8_1]) Ih (nS n _ _ L1 c8_1 _ (dh.mono hrw1 (Nat.le_refl _)) (LO.below hB hlo1) hgr.r hl1) rfl fun aG aH j ag => ⟨.inl (dD hS (eo.grown j v0.ownBlock)), ?_⟩)
 replace hB := Ze hB j
 replace d := j.at d
 replace e := j.at e
 replace hrw1 := j.ow hrw1
 replace g := j.ow g
 replace hS := dD hS (eo.grown j v0.ownBlock)
 obtain ⟨rv9_6, rfl, hk9_6⟩ := ag
 refine Tw 7 M rfl rfl hS <| To 8 rfl (dg rfl rfl dH rfl e rfl (by exact ib (dh.one hk9_6)) fun aI s ah => ⟨.inr (by kernel_rfl), ?_⟩)
 replace hB := Zg hB s H
 replace d := At.grownNe d I s
 replace hrw1 := dh.grownAt hrw1 e s Dd
 replace g := dh.grownAt g e s Dd
 replace hk9_6 := dh.grownAt hk9_6 e s Dd
 replace e := ah
 refine Td ?_
 exact Y _ _ ((rv9_6, rg undef (fun k => !decide (c8_1 ∈ L1.getD k [])) l L1.length, qK L1 c8_1, M, out ++ [c8_1])) Za ⟨rfl, trivial⟩ ⟨hB, d, (by exact e), hk9_6, (by exact g), (by have h := LO.kp hlo1 (fun k => !decide (c8_1 ∈ L1.getD k [])) L1.length (Nat.le_refl _); rw [JG] at h; exact h), (hgr.next hcin), (by have := (hgr.next hcin).len; omega), trivial⟩ (by exact xQ hcin)
 refine dr <| X _ _ ?_
 have hTl := lx out n.toNat
 have hn4 := (fl.1 hr).2.1
 refine Zr <| Zw v0 rfl <| Zf rfl iy <| Zl rfl dB d rfl <| ZC GG (oO _ out n _ ho.sl (by have := hgr.len; omega) (by have q := fl.1 hr; exact ⟨q.1, q.2.1⟩)) rfl fun N aJ t y => ?_
 have ai := dh.lt2 ho
 have aj := (Below.size hB)
 replace hB := Ze hB t
 replace d := t.at d
 replace e := t.at e
 replace hrw1 := t.ow hrw1
 replace ho := t.ow ho
 have aK := eO.new ai y
 replace y := dh.mono y aj
 refine Zw N rfl <| Zw (.int .i64 0) rfl <| cT <| Zt <| dZ (v := N) rfl (v1 := .int .i64 0) rfl ⟨hB, ?_⟩
 exact ⟨_, _, rfl, y, hgr.fin hr (by have := hlo1.len; omega), by omega⟩
end
section
open Go Go.RowKit
def MD (ops : Array Oper) (Ls : List (Array Bool)) : List (Array Bool) := (Ls.flatMap fun L => (Region.ready .any ops L).map fun i => L.setIfInBounds i true).eraseDups
def Kf (ops : Array Oper) (A : List Nat) (L1 : Array Bool) : Nat → List (Array Bool) → Bool
 | 0, Ls => Ls.all fun L => L == L1
 | m + 1, Ls => (Ls.all fun L => !(Region.ready .any ops L).isEmpty && (Region.ready .any ops L).all fun i => A.contains i) && Kf ops A L1 m (MD ops Ls)
section
variable {P : Program} {n : Nat} {ops : Array Oper} {Q : (Nat → Value) → World → Prop} {S : World → Prop} {f0 : Nat → Value}
theorem G0 {T : List Nat} {g : Nat → Value} {d : Nat} {v : Value} (hd : oY T d = true) : updo (mask T f0 g) (some d) v = mask T f0 (upd g d v) := by
 funext t
 show cond (Nat.beq t d) v (mask T f0 g t) = cond (oY T t) (cond (Nat.beq t d) v (g t)) (f0 t)
 cases e : Nat.beq t d with
 | true =>
  obtain rfl := Nat.eq_of_beq_eq_true e
  rw [hd]; rfl
 | false => rfl
theorem Fw {T : List Nat} : mask T f0 f0 = f0 := by
 funext t
 unfold mask
 cases oY T t <;> rfl
theorem Iq {f f' : Nat → Value} {w : World} {k : Nat} {L : Array Bool} (e : f = f') (h : WT P n ops Q S k L f' w) : WT P n ops Q S k L f w := by rw [e]; exact h
theorem FH {T : List Nat} {g : Nat → Value} (l : List (Nat × Value)) (h : pY (mask T f0 g) l) : mask T f0 g = updL l (mask T f0 (mask T f0 g)) := uc (fz.mask T f0 g) l h
end
end
section
open Go Go.RowKit
structure Bn where
 n : Int
 rv : Value
 tv : Value
def zm : Bn := ⟨0, undef, undef⟩
def CP (x : Bn) : List Value := [.int .i64 x.n, x.rv, x.tv]
theorem r7 : ∀ a, (CP a).length = 3 := fun _ => rfl
abbrev C1 := ML × List Int
def lC : C1 := ([], [])
structure gM (TV TI : TypeId) (W : World) (xs : List Bn) (st : List C1) : Prop where
 len : xs.length = st.length
 mx : ∀ k, k < st.length → ∃ vs, dh encV 1 TV W 0 (xs.getD k zm).rv vs ∧ LO TI 0 W vs (st.getD k lC).1
 ch : ∀ k, k < st.length → dh d9 1 TI W 0 (xs.getD k zm).tv (st.getD k lC).2
section
variable {TV TI T' : TypeId} {W W' : World} {xs : List Bn} {st : List C1} {N' : Nat}
theorem gM.map (h : gM TV TI W xs st) (f : ∀ (α : Type) (enc : α → List Value) (T : TypeId) (v : Value) (l : List α), T = TV ∨ T = TI → dh enc 1 T W 0 v l → dh enc 1 T W' 0 v l) : gM TV TI W' xs st :=
 ⟨h.len, fun k hk => by
  obtain ⟨vs, h1, h2⟩ := h.mx k hk
  exact ⟨vs, f _ _ _ _ _ (.inl rfl) h1, h2.len, fun i hi => f _ _ _ _ _ (.inr rfl) (h2.get i hi)⟩, fun k hk => f _ _ _ _ _ (.inr rfl) (h.ch k hk)⟩
theorem gM.ext (hE : eo W W') (h : gM TV TI W xs st) : gM TV TI W' xs st := h.map fun _ _ _ _ _ _ k => hE.ow k
theorem gM.below {w : World} (hB : Below w.heap.size w W) (h : gM TV TI w xs st) : gM TV TI W xs st := h.map fun _ _ _ _ _ _ k => Below.ow hB k
theorem gM.grownAt {b : Nat} {c : Array Value} (h : gM TV TI W xs st) (hm : At W b c T') (hG : W.grownBy W' (some b)) (h1 : T' ≠ TV) (h2 : T' ≠ TI) : gM TV TI W' xs st :=
 h.map fun _ _ _ _ _ hT k => k.grownAt hm hG (by rcases hT with rfl | rfl <;> assumption)
theorem gM.grownMap {α β : Type} {enc : α → Value} {ev : β → Value} {b : Nat} {l : List (α × β)} (h : gM TV TI W xs st) (hm : dR enc ev W b l) (hG : W.grownBy W' (some b)) : gM TV TI W' xs st :=
 h.map fun _ _ _ _ _ _ k => k.grownMap hm hG
theorem gM.grownOw {α : Type} {enc : α → List Value} {sz : Nat} {v : Value} {l : List α} (h : gM TV TI W xs st) (hv : dh enc sz T' W N' v l) (hG : W.grownBy W' v.ownBlock) (h1 : T' ≠ TV) (h2 : T' ≠ TI) : gM TV TI W' xs st :=
 h.map fun _ _ _ _ _ hT k => k.grownOw hv hG (by rcases hT with rfl | rfl; exact h1.symm; exact h2.symm)
theorem nY {α : Type} {a b : List α} {d : α} {i : Nat} (h : i < a.length) : (a ++ b).getD i d = a.getD i d := by
 rw [List.getD_eq_getElem?_getD, List.getD_eq_getElem?_getD, List.getElem?_append_left h]
theorem lT {α : Type} {a : List α} {x d : α} : (a ++ [x]).getD a.length d = x := by
 rw [List.getD_eq_getElem?_getD, List.getElem?_append_right (Nat.le_refl _), Nat.sub_self]; rfl
theorem iP {α : Type} {l : List α} {d : α} {i k : Nat} (h : i < k) : (l.take k).getD i d = l.getD i d := by
 rw [List.getD_eq_getElem?_getD, List.getD_eq_getElem?_getD, List.getElem?_take, if_pos h]
theorem gM.take (h : gM TV TI W xs st) (k : Nat) : gM TV TI W (xs.take k) (st.take k) := by
 refine ⟨by rw [List.length_take, List.length_take, h.len], fun i hi => ?_, fun i hi => ?_⟩
 ·rw [List.length_take] at hi
  rw [iP (by omega), iP (by omega)]
  exact h.mx i (by omega)
 ·rw [List.length_take] at hi
  rw [iP (by omega), iP (by omega)]
  exact h.ch i (by omega)
theorem gM.snoc {x : Bn} {y : C1} {vs : List Value} (h : gM TV TI W xs st) (h1 : dh encV 1 TV W 0 x.rv vs) (h2 : LO TI 0 W vs y.1) (h3 : dh d9 1 TI W 0 x.tv y.2) : gM TV TI W (xs ++ [x]) (st ++ [y]) := by
 refine ⟨by simp [h.len], fun i hi => ?_, fun i hi => ?_⟩
 ·rw [List.length_append, List.length_singleton] at hi
  by_cases e : i < st.length
  ·rw [nY (h.len ▸ e), nY e]; exact h.mx i e
  ·obtain rfl : i = st.length := by omega
   rw [lT, ← h.len, lT]; exact ⟨vs, h1, h2⟩
 ·rw [List.length_append, List.length_singleton] at hi
  by_cases e : i < st.length
  ·rw [nY (h.len ▸ e), nY e]; exact h.ch i e
  ·obtain rfl : i = st.length := by omega
   rw [lT, ← h.len, lT]; exact h3
theorem gM.one {x : Bn} {y : C1} {vs : List Value} (h1 : dh encV 1 TV W 0 x.rv vs) (h2 : LO TI 0 W vs y.1) (h3 : dh d9 1 TI W 0 x.tv y.2) : gM TV TI W [x] [y] :=
 gM.snoc (xs := []) (st := []) ⟨rfl, fun k hk => (by cases hk), fun k hk => (by cases hk)⟩ h1 h2 h3
end
structure Fr (xs : List Bn) (st : List C1) : Prop where
 r : ∀ k, k < st.length → dX (xs.getD k zm).n (st.getD k lC).1 = true
 l : ∀ k, k < st.length → (st.getD k lC).1.length ≤ 1000000
 c : ∀ k, k < st.length → k + cnt (st.getD k lC).1 ≤ 4000
 t : ∀ k, k < st.length → (st.getD k lC).2.length + 4001 * cnt (st.getD k lC).1 ≤ 16004000
section
variable {xs : List Bn} {st : List C1}
theorem Fr.len (h : Fr xs st) : st.length ≤ 4001 := by
 cases e : st.length with
 | zero => omega
 | succ k => have := h.c k (by omega); omega
theorem Fr.take (h : Fr xs st) (hl : xs.length = st.length) (k : Nat) : Fr (xs.take k) (st.take k) := by
 refine ⟨fun i hi => ?_, fun i hi => ?_, fun i hi => ?_, fun i hi => ?_⟩ <;> rw [List.length_take] at hi
 ·rw [iP (by omega), iP (by omega)]; exact h.r i (by omega)
 ·rw [iP (by omega)]; exact h.l i (by omega)
 ·rw [iP (by omega)]; exact h.c i (by omega)
 ·rw [iP (by omega)]; exact h.t i (by omega)
theorem Fr.snoc (h : Fr xs st) (hl : xs.length = st.length) {x : Bn} {y : C1} (h1 : dX x.n y.1 = true) (h2 : y.1.length ≤ 1000000) (h3 : st.length + cnt y.1 ≤ 4000) (h4 : y.2.length + 4001 * cnt y.1 ≤ 16004000) : Fr (xs ++ [x]) (st ++ [y]) := by
 refine ⟨fun i hi => ?_, fun i hi => ?_, fun i hi => ?_, fun i hi => ?_⟩ <;> rw [List.length_append, List.length_singleton] at hi <;> by_cases e : i < st.length
 ·rw [nY (hl ▸ e), nY e]; exact h.r i e
 ·obtain rfl : i = st.length := by omega
  rw [lT, ← hl, lT]; exact h1
 ·rw [nY e]; exact h.l i e
 ·obtain rfl : i = st.length := by omega
  rw [lT]; exact h2
 ·rw [nY e]; exact h.c i e
 ·obtain rfl : i = st.length := by omega
  rw [lT]; exact h3
 ·rw [nY e]; exact h.t i e
 ·obtain rfl : i = st.length := by omega
  rw [lT]; exact h4
end
theorem Jj (L : ML) : cnt L ≤ 4000 := by
 unfold cnt
 exact Nat.le_trans List.countP_le_length (by simp)
theorem Fr.start {n : Int} {L : ML} {rv tv : Value} (hr : dX n L = true) (hl : L.length ≤ 1000000) : Fr [⟨n, rv, tv⟩] [(L, [])] := by
 have h := Jj L
 have hx : Fr [] [] := ⟨fun k hk => (by cases hk), fun k hk => (by cases hk), fun k hk => (by cases hk), fun k hk => (by cases hk)⟩
 have := hx.snoc rfl (x := ⟨n, rv, tv⟩) (y := (L, [])) hr hl (by simpa using h) (by dsimp only [List.length_nil]; omega)
 exact this
def PF (ops : Array Oper) (i j : Nat) : Bool := ((ops[i]?).map fun o => o.after.toList.any fun e => Region.binds .any e && e.on == j).getD false
theorem jX {ops : Array Oper} {L : Array Bool} {i j : Nat} (h : i ∈ Region.ready .any ops L) (hd : PF ops i j = true) : L.getD j false = true := by
 unfold Region.ready at h
 have h2 := (List.mem_filter.1 h).2
 rw [Bool.and_eq_true] at h2
 have h3 := h2.2
 unfold PF at hd
 cases e : ops[i]? with
 | none => rw [e] at hd; cases hd
 | some o =>
  rw [e] at h3 hd
  simp only [Option.map_some, Option.getD_some] at h3 hd
  obtain ⟨x, hx, hb⟩ := List.any_eq_true.1 hd
  rw [Bool.and_eq_true] at hb
  rw [← Array.all_toList] at h3
  have := List.all_eq_true.1 h3 x hx
  rw [hb.1] at this
  have e2 : x.on = j := by simpa using hb.2
  rw [e2] at this
  simpa using this
theorem kK {ops : Array Oper} {L : Array Bool} {i : Nat} (h : i ∈ Region.ready .any ops L) : L.getD i false = false := by
 unfold Region.ready at h
 have h2 := (List.mem_filter.1 h).2
 rw [Bool.and_eq_true] at h2
 have h3 : L.getD i true = false := by simpa using h2.1
 rw [Array.getD_eq_getD_getElem?] at h3 ⊢
 cases e : L[i]? with
 | none => rfl
 | some b => rw [e] at h3; exact h3
section
variable {P : Program} {n : Nat} {ops : Array Oper} {Q : (Nat → Value) → World → Prop} {S : World → Prop} {f0 : Nat → Value}
theorem tI {A : List Nat} {L1 : Array Bool} {T : List Nat} {k : Nat} (I : Array Bool → (Nat → Value) → World → Prop)
  (hstep : ∀ i, A.contains i = true → ∀ L g w, i < L.size → i ∈ Region.ready .any ops L → I L g w → ∃ oi d, ops[i]? = some oi ∧ gw ops (mask T f0 g) oi = true ∧ oi.dst = some d ∧ jz n (some d) = true ∧ oY T d = true ∧
   Yd P oi (mask T f0 g) w fun v w' => (S w' ∨ m4 ops L i = true) ∧ I (L.setIfInBounds i true) (upd g d v) w')
  (hfin : ∀ g w, I L1 g w → WT P n ops Q S k L1 (mask T f0 g) w) :
  ∀ (m : Nat) (Ls : List (Array Bool)), Kf ops A L1 m Ls = true → ∀ L, L ∈ Ls → ∀ g w, I L g w → WT P n ops Q S (k + m) L (mask T f0 g) w
 | 0, Ls, h, L, hL, g, w, hI => by
  have e : L = L1 := by
   have := List.all_eq_true.1 h L hL
   exact eq_of_beq this
  subst e
  exact hfin g w hI
 | m + 1, Ls, h, L, hL, g, w, hI => by
  rw [Kf, Bool.and_eq_true] at h
  have h1 := List.all_eq_true.1 h.1 L hL
  rw [Bool.and_eq_true] at h1
  refine ⟨fun hsz hcl a ha => ⟨fun h0 => (by rw [h0] at h1; exact absurd h1.1 (by decide)), fun j hj => ?_⟩⟩
  have hA := List.all_eq_true.1 h1.2 j hj
  have hjlt : j < L.size := by
   obtain ⟨_, oj, hoj, _⟩ := mem_ready.1 hj
   rw [hsz]; exact (Array.getElem?_eq_some_iff.1 hoj).1
  obtain ⟨oi, d, hi, hw, hd, hok, hT, hY⟩ := hstep j hA L g w hjlt hj hI
  refine EP (K := fun f' w' => (S w' ∨ m4 ops L j = true) ∧ WT P n ops Q S (k + m) (L.setIfInBounds j true) f' w') hi hw hd hok ha
   (fun f' a' w' hr' hk => ⟨hk.1, hk.2.out (by simpa using hsz) (hcl.add hj) a' hr'⟩) (hY.mono fun v w' hv => ⟨hv.1, ?_⟩)
  rw [G0 hT]
  refine tI I hstep hfin m _ h.2 _ ?_ _ _ hv.2
  unfold MD
  rw [List.mem_eraseDups]
  exact List.mem_flatMap.2 ⟨L, hL, List.mem_map.2 ⟨j, hj, rfl⟩⟩
theorem Ki {A : List Nat} {L0 L1 : Array Bool} {T : List Nat} {k m : Nat} {w : World} (I : Array Bool → (Nat → Value) → World → Prop) (hc : Kf ops A L1 m [L0] = true) (h0 : I L0 f0 w)
  (hstep : ∀ i, A.contains i = true → ∀ L g w, i < L.size → i ∈ Region.ready .any ops L → I L g w → ∃ oi d, ops[i]? = some oi ∧ gw ops (mask T f0 g) oi = true ∧ oi.dst = some d ∧ jz n (some d) = true ∧ oY T d = true ∧
   Yd P oi (mask T f0 g) w fun v w' => (S w' ∨ m4 ops L i = true) ∧ I (L.setIfInBounds i true) (upd g d v) w')
  (hfin : ∀ g w, I L1 g w → WT P n ops Q S k L1 (mask T f0 g) w) : WT P n ops Q S (k + m) L0 f0 w := by
 have := tI (f0 := f0) (T := T) I hstep hfin m [L0] hc L0 (List.mem_singleton.2 rfl) f0 w h0
 rwa [Fw] at this
end
theorem PN {L : Array Bool} {i j : Nat} (hi : i < L.size) : (L.setIfInBounds i true).getD j false = if j = i then true else L.getD j false := by
 by_cases h : j = i
 ·subst h
  rw [if_pos rfl]
  exact pq.2 (.inl ⟨rfl, hi⟩)
 ·rw [if_neg h]
  cases e : L.getD j false with
  | true => exact pq.2 (.inr e)
  | false =>
   cases e2 : (L.setIfInBounds i true).getD j false with
   | false => rfl
   | true =>
    rcases pq.1 e2 with ⟨q, _⟩ | q
    ·exact absurd q h
    ·rw [e] at q; cases q
structure ir (TV TI : TypeId) (wd : World) (n c : Int) (rest : ML) (vs8 : List Value) (ov : Value) (out : List Int) (f3 f5 f8 f9 f11 f13 f14 f15 : Bool) (u3 u5 u8 u9 u11 u13 u14 u15 : Value) (W : World) : Prop where
 s : eo wd W
 c5 : f5 = true → f3 = true
 c8 : f8 = true → f3 = true
 c11 : f11 = true → f8 = true ∧ f9 = true
 c14 : f14 = true → f11 = true ∧ f13 = true
 c15 : f15 = true → f14 = true
 o3 : f3 = true → ∃ r vs, u3 = .agg #[.int .i64 n, r] ∧ dh encV 1 TV W 0 r vs ∧ LO TI 0 W vs (oa rest c) ∧ (f9 = true → f11 = false → ∀ x, x ∈ vs → eO u9 x) ∧ (f11 = true → f14 = false → ∀ x, x ∈ vs → eO u11 x)
 o5 : f5 = true → ∃ r, u3 = .agg #[.int .i64 n, r] ∧ u5 = .agg #[.int .i64 n, r, ov]
 o8 : f8 = true → ∃ r, u8 = .agg #[.int .i64 n, r] ∧ dh encV 1 TV W 0 r vs8
 o9 : f9 = true → f11 = false → dh d9 1 TI W wd.heap.size u9 ([] : List Int)
 o11 : f11 = true → f14 = false → dh d9 1 TI W wd.heap.size u11 out
 o13 : f13 = true → f14 = false → dh d9 1 TI W wd.heap.size u13 [c] ∧ (f9 = true → f11 = false → eO u9 u13)
 o14 : f14 = true → dh d9 1 TI W wd.heap.size u14 (out ++ [c])
 o15 : f15 = true → ∃ r, u8 = .agg #[.int .i64 n, r] ∧ u15 = .agg #[.int .i64 n, r, u14]
section
variable {TV TI : TypeId} {wd W W' : World} {n c : Int} {rest : ML} {vs8 : List Value} {ov : Value} {out : List Int} {f3 f5 f8 f9 f11 f13 f14 f15 : Bool} {u3 u5 u8 u9 u11 u13 u14 u15 v : Value} {r : Value} {vs : List Value}
theorem LO.row {N : Nat} {L : ML} {x : Value} (h : LO TI N W vs L) (hx : x ∈ vs) : ∃ l, dh d9 1 TI W N x l := by
 obtain ⟨j, hj, rfl⟩ := fo (d := undef) hx
 exact ⟨_, h.get j (by rw [← h.len]; exact hj)⟩
theorem ir.start (W : World) : ir TV TI W n c rest vs8 ov out false false false false false false false false u3 u5 u8 u9 u11 u13 u14 u15 W := by
 constructor <;> first | exact eo.refl _ | (intro h; cases h)
theorem ir.ext (h : ir TV TI wd n c rest vs8 ov out f3 f5 f8 f9 f11 f13 f14 f15 u3 u5 u8 u9 u11 u13 u14 u15 W) (hE : eo W W') : ir TV TI wd n c rest vs8 ov out f3 f5 f8 f9 f11 f13 f14 f15 u3 u5 u8 u9 u11 u13 u14 u15 W' :=
 ⟨h.s.trans hE, h.c5, h.c8, h.c11, h.c14, h.c15, fun q => by obtain ⟨r, vs, a, b, c, d⟩ := h.o3 q; exact ⟨r, vs, a, hE.ow b, LO.ext hE c, d⟩, h.o5, fun q => by obtain ⟨r, a, b⟩ := h.o8 q; exact ⟨r, a, hE.ow b⟩,
  fun a b => hE.ow (h.o9 a b), fun a b => hE.ow (h.o11 a b), fun a b => ⟨hE.ow (h.o13 a b).1, (h.o13 a b).2⟩, fun a => hE.ow (h.o14 a), h.o15⟩
theorem ir.p3 (h : ir TV TI wd n c rest vs8 ov out f3 f5 f8 f9 f11 f13 f14 f15 u3 u5 u8 u9 u11 u13 u14 u15 W) (n3 : f3 = false) (hE : eo W W') (h1 : dh encV 1 TV W' 0 r vs) (h2 : LO TI W.heap.size W' vs (oa rest c)) :
  ir TV TI wd n c rest vs8 ov out true f5 f8 f9 f11 f13 f14 f15 (.agg #[.int .i64 n, r]) u5 u8 u9 u11 u13 u14 u15 W' := by
 have k := h.ext hE
 have n5 : f5 = true → False := fun q => by rw [h.c5 q] at n3; cases n3
 have n8 : f8 = true → False := fun q => by rw [h.c8 q] at n3; cases n3
 have n11 : f11 = true → False := fun q => n8 (h.c11 q).1
 refine ⟨k.s, fun _ => rfl, fun _ => rfl, k.c11, k.c14, k.c15, fun _ => ⟨r, vs, rfl, h1, h2.mono (Nat.zero_le _), fun a b x hx => ?_, fun q => (n11 q).elim⟩, fun q => (n5 q).elim, fun q => (n8 q).elim, k.o9, k.o11, k.o13, k.o14, k.o15⟩
 obtain ⟨l, hl⟩ := h2.row hx
 exact eO.new (dh.lt2 (h.o9 a b)) hl
theorem ir.p5 (h : ir TV TI wd n c rest vs8 ov out f3 f5 f8 f9 f11 f13 f14 f15 u3 u5 u8 u9 u11 u13 u14 u15 W) (n3 : f3 = true) (e : u3 = .agg #[.int .i64 n, r]) :
  ir TV TI wd n c rest vs8 ov out f3 true f8 f9 f11 f13 f14 f15 u3 (.agg #[.int .i64 n, r, ov]) u8 u9 u11 u13 u14 u15 W :=
 ⟨h.s, fun _ => n3, h.c8, h.c11, h.c14, h.c15, h.o3, fun _ => ⟨r, e, rfl⟩, h.o8, h.o9, h.o11, h.o13, h.o14, h.o15⟩
theorem ir.p8 (h : ir TV TI wd n c rest vs8 ov out f3 f5 f8 f9 f11 f13 f14 f15 u3 u5 u8 u9 u11 u13 u14 u15 W) (n3 : f3 = true) (n8 : f8 = false) (hE : eo W W') (h1 : dh encV 1 TV W' 0 r vs8) :
  ir TV TI wd n c rest vs8 ov out f3 f5 true f9 f11 f13 f14 f15 u3 u5 (.agg #[.int .i64 n, r]) u9 u11 u13 u14 u15 W' := by
 have k := h.ext hE
 have n15 : f15 = true → False := fun q => by rw [(h.c11 (h.c14 (h.c15 q)).1).1] at n8; cases n8
 exact ⟨k.s, k.c5, fun _ => n3, fun q => ⟨rfl, (k.c11 q).2⟩, k.c14, k.c15, k.o3, k.o5, fun _ => ⟨r, rfl, h1⟩, k.o9, k.o11, k.o13, k.o14, fun q => (n15 q).elim⟩
theorem ir.p9 {b : Nat} (h : ir TV TI wd n c rest vs8 ov out f3 f5 f8 f9 f11 f13 f14 f15 u3 u5 u8 u9 u11 u13 u14 u15 W) (n9 : f9 = false) (hb : b = W.heap.size) (hE : eo W W') (hm : At W' b #[] TI) :
  ir TV TI wd n c rest vs8 ov out f3 f5 f8 true f11 f13 f14 f15 u3 u5 u8 (.slice (some ⟨b, 0, none⟩) 0 0) u11 u13 u14 u15 W' := by
 have k := h.ext hE
 have n11 : f11 = true → False := fun q => by rw [(h.c11 q).2] at n9; cases n9
 have ap : ∀ x, (∀ j, x.ownBlock = some j → j < W.heap.size) → eO (.slice (some ⟨b, 0, none⟩) 0 0) x := fun x hx j h1 h2 => by
  obtain rfl : b = j := Option.some.inj h1
  have := hx b h2
  omega
 refine ⟨k.s, k.c5, k.c8, fun q => (n11 q).elim, k.c14, k.c15, fun q => ?_, k.o5, k.o8, fun _ _ => sy hm (hb ▸ eo.size h.s), k.o11, fun a b => ⟨(k.o13 a b).1, fun _ _ => ap _ (dh.lt2 (h.o13 a b).1)⟩, k.o14, k.o15⟩
 obtain ⟨r, vs, a1, a2, a3, a4, a5⟩ := h.o3 q
 exact ⟨r, vs, a1, hE.ow a2, LO.ext hE a3, fun _ _ x hx => by obtain ⟨l, hl⟩ := a3.row hx; exact ap _ (dh.lt2 hl), fun q => (n11 q).elim⟩
theorem ir.p13 (h : ir TV TI wd n c rest vs8 ov out f3 f5 f8 f9 f11 f13 f14 f15 u3 u5 u8 u9 u11 u13 u14 u15 W) (n13 : f13 = false) (hE : eo W W') (hm : dh d9 1 TI W' W.heap.size v [c]) :
  ir TV TI wd n c rest vs8 ov out f3 f5 f8 f9 f11 true f14 f15 u3 u5 u8 u9 u11 v u14 u15 W' := by
 have k := h.ext hE
 have n14 : f14 = true → False := fun q => by rw [(h.c14 q).2] at n13; cases n13
 exact ⟨k.s, k.c5, k.c8, k.c11, fun q => (n14 q).elim, k.c15, k.o3, k.o5, k.o8, k.o9, k.o11, fun _ _ => ⟨hm.mono (eo.size h.s), fun a b => eO.new (dh.lt2 (h.o9 a b)) hm⟩, k.o14, k.o15⟩
theorem LO.grownAp {N : Nat} {L : ML} {u : Value} (h : LO TI N W vs L) (ha : ∀ x, x ∈ vs → eO u x) (hG : W.grownBy W' u.ownBlock) : LO TI N W' vs L :=
 ⟨h.len, fun k hk => (h.get k hk).grownAp (ha _ (dS (by rw [h.len]; exact hk))) hG⟩
theorem ir.p11 (h : ir TV TI wd n c rest vs8 ov out f3 f5 f8 f9 f11 f13 f14 f15 u3 u5 u8 u9 u11 u13 u14 u15 W) (hT : TI ≠ TV) (n11 : f11 = false) (n8 : f8 = true) (n9 : f9 = true) (hG : W.grownBy W' u9.ownBlock) (ho : dh d9 1 TI W' wd.heap.size v out)
  (hob : v.ownBlock = u9.ownBlock ∨ v.ownBlock = some W.heap.size) : ir TV TI wd n c rest vs8 ov out f3 f5 f8 f9 true f13 f14 f15 u3 u5 u8 u9 v u13 u14 u15 W' := by
 have n14 : f14 = true → False := fun q => by rw [(h.c14 q).1] at n11; cases n11
 have h9 := h.o9 n9 n11
 refine ⟨dy h.s hG (Nat.le_refl _) (fun j hj => dh.lt h9 j hj), h.c5, h.c8, fun _ => ⟨n8, n9⟩, fun q => (n14 q).elim, h.c15, fun q => ?_, h.o5, fun q => ?_, fun _ q => (by cases q), fun _ _ => ho, fun a b => ⟨?_, fun _ q => (by cases q)⟩, fun q => (n14 q).elim, h.o15⟩
 ·obtain ⟨r, vs, a1, a2, a3, a4, a5⟩ := h.o3 q
  exact ⟨r, vs, a1, a2.grownOw h9 hG hT.symm, a3.grownAp (a4 n9 n11) hG, fun _ q => (by cases q), fun _ _ x hx => by obtain ⟨l, hl⟩ := a3.row hx; exact eO.app (a4 n9 n11 x hx) hob hl⟩
 ·obtain ⟨r, a1, a2⟩ := h.o8 q
  exact ⟨r, a1, a2.grownOw h9 hG hT.symm⟩
 ·exact (h.o13 a b).1.grownAp ((h.o13 a b).2 n9 n11) hG
theorem ir.p14 (h : ir TV TI wd n c rest vs8 ov out f3 f5 f8 f9 f11 f13 f14 f15 u3 u5 u8 u9 u11 u13 u14 u15 W) (hT : TI ≠ TV) (n14 : f14 = false) (n11 : f11 = true) (n13 : f13 = true) (hG : W.grownBy W' u11.ownBlock) (ho : dh d9 1 TI W' wd.heap.size v (out ++ [c])) :
  ir TV TI wd n c rest vs8 ov out f3 f5 f8 f9 f11 f13 true f15 u3 u5 u8 u9 u11 u13 v u15 W' := by
 have n15 : f15 = true → False := fun q => by rw [h.c15 q] at n14; cases n14
 have h11 := h.o11 n11 n14
 refine ⟨dy h.s hG (Nat.le_refl _) (fun j hj => dh.lt h11 j hj), h.c5, h.c8, h.c11, fun _ => ⟨n11, n13⟩, fun _ => rfl, fun q => ?_, h.o5, fun q => ?_, fun _ q => (by rw [n11] at q; cases q), fun _ q => (by cases q), fun _ q => (by cases q), fun _ => ho, fun q => (n15 q).elim⟩
 ·obtain ⟨r, vs, a1, a2, a3, a4, a5⟩ := h.o3 q
  exact ⟨r, vs, a1, a2.grownOw h11 hG hT.symm, a3.grownAp (a5 n11 n14) hG, fun _ q => (by rw [n11] at q; cases q), fun _ q => (by cases q)⟩
 ·obtain ⟨r, a1, a2⟩ := h.o8 q
  exact ⟨r, a1, a2.grownOw h11 hG hT.symm⟩
theorem ir.p15 (h : ir TV TI wd n c rest vs8 ov out f3 f5 f8 f9 f11 f13 f14 f15 u3 u5 u8 u9 u11 u13 u14 u15 W) (n14 : f14 = true) (e : u8 = .agg #[.int .i64 n, r]) :
  ir TV TI wd n c rest vs8 ov out f3 f5 f8 f9 f11 f13 f14 true u3 u5 u8 u9 u11 u13 u14 (.agg #[.int .i64 n, r, u14]) W :=
 ⟨h.s, h.c5, h.c8, h.c11, h.c14, fun _ => n14, h.o3, h.o5, h.o8, h.o9, h.o11, h.o13, h.o14, fun _ => ⟨r, e, rfl⟩⟩
end
structure mO (n : Int) (L : ML) (bud : Int) (xs : List Bn) (st : List C1) (best : List Int) (steps : Int) : Prop where
 sw : qB L st best
 sl : Fr xs st
 len : xs.length = st.length
 bl : best.length ≤ 4000
 s0 : 0 ≤ steps
 sb : steps ≤ bud
 ps : steps.toNat + D5 st ≤ 2 ^ cnt L - 1
theorem sW {st : List C1} {k : Nat} (h : st.length = k + 1) : st = st.take k ++ [st.getD k lC] := by
 have h2 : st.take (k + 1) = st.take k ++ [st.getD k lC] := by
  rw [List.take_add_one, List.getD_eq_getElem?_getD, List.getElem?_eq_getElem (show k < st.length by omega)]
  rfl
 rw [← h2, ← h, List.take_length]
theorem E7 {n : Int} {Lx rest : ML} {T : List Int} (hr : dX n Lx = true) (hf : i5 Lx Lx.length = true) (h : lD Lx rest T) : ∀ r, r ∈ rest → 0 < r.length := fun r hr2 => by
 have hs : mp Lx Lx.flatten := fun q hq => by
  match q, hq, vg.1 hf q hq with
  | c :: q', hq, _ => exact ⟨c, List.mem_cons_self .., List.mem_flatten.2 ⟨_, hq, List.mem_cons_self ..⟩⟩
 obtain ⟨X, _, h2, _⟩ := h.dn _ (kM _ _) (pV hr hs)
 obtain ⟨c, hc, _⟩ := h2 r hr2
 exact List.length_pos_iff.2 fun e => by rw [e] at hc; cases hc
section
variable {n n' : Int} {L rest : ML} {bud steps : Int} {xs : List Bn} {st : List C1} {best T : List Int} {k : Nat} {c : Int} {rv tv : Value}
theorem mO.start {best : List Int} (hr : dX n L = true) (hl : L.length ≤ 1000000) (hb : mp L best) (hbl : best.length ≤ 4000) (h0 : 0 ≤ bud) : mO n L bud [⟨n, rv, tv⟩] [(L, [])] best 0 :=
 ⟨qB.start hb, Fr.start hr hl, rfl, hbl, Int.le_refl _, h0, by simp [D5]⟩
theorem mO.sw' (h : mO n L bud xs st best steps) (hk : st.length = k + 1) : qB L (st.take k ++ [st.getD k lC]) best := by rw [← sW hk]; exact h.sw
theorem mO.drop {best' : List Int} (h : mO n L bud xs st best steps) (hk : st.length = k + 1) (hs : qB L (st.take k) best') (hl : best'.length ≤ 4000) : mO n L bud (xs.take k) (st.take k) best' steps :=
 ⟨hs, h.sl.take h.len k, by rw [List.length_take, List.length_take, h.len], hl, h.s0, h.sb, by
  have h1 := h.ps
  have h2 := Js (st.take k) (st.getD k lC)
  rw [← sW hk] at h2
  omega⟩
theorem mO.none (h : mO n L bud xs st best steps) (hk : st.length = k + 1) (hf : (!i5 (st.getD k lC).1 (st.getD k lC).1.length) = true) : mO n L bud (xs.take k) (st.take k) best steps := by
 have hf2 : ¬ ∀ i, i < (st.getD k lC).1.length → 0 < ((st.getD k lC).1.getD i []).length := fun q => by rw [mN.2 q] at hf; cases hf
 obtain ⟨i, hi⟩ := Classical.not_forall.1 hf2
 obtain ⟨hi, hl⟩ := Classical.not_imp.1 hi
 exact h.drop hk ((h.sw' hk).none (dS (d := []) hi) (List.eq_nil_of_length_eq_zero (by omega))) h.bl
theorem mO.leaf (h : mO n L bud xs st best steps) (hk : st.length = k + 1) (hr : lD (st.getD k lC).1 rest T) (he : rest.length = 0) (hl : ((st.getD k lC).2 ++ T).length < best.length) : mO n L bud (xs.take k) (st.take k) ((st.getD k lC).2 ++ T) steps :=
 h.drop hk ((h.sw' hk).leaf hr (List.eq_nil_of_length_eq_zero he) hl) (Nat.le_trans (Nat.le_of_lt hl) h.bl)
theorem mO.leaf0 (h : mO n L bud xs st best steps) (hk : st.length = k + 1) (hr : lD (st.getD k lC).1 rest T) (hl : ¬ ((st.getD k lC).2 ++ T).length < best.length) : mO n L bud (xs.take k) (st.take k) best steps :=
 h.drop hk ((h.sw' hk).leaf0 hr hl) h.bl
theorem mO.prune (h : mO n L bud xs st best steps) (hk : st.length = k + 1) (hr : lD (st.getD k lC).1 rest T) (hl : best.length ≤ ((st.getD k lC).2 ++ T).length + Aw rest rest.length) : mO n L bud (xs.take k) (st.take k) best steps :=
 h.drop hk ((h.sw' hk).prune hr hl) h.bl
theorem mO.branch {x1 x2 : Bn} (h : mO n L bud xs st best steps) (hk : st.length = k + 1) (hr : lD (st.getD k lC).1 rest T) (hrr : dX n' rest = true) (hT : T.length ≤ 4000) (hrl : rest.length ≤ 1000000) (hc : qv rest c) (hne : ¬ steps = bud) (e1 : x1.n = n') (e2 : x2.n = n') :
  mO n L bud (xs.take k ++ [x1, x2]) (st.take k ++ [(oa rest c, (st.getD k lC).2 ++ T), (qK rest c, (st.getD k lC).2 ++ T ++ [c])]) best (steps + 1) := by
 have hcm := rG hr.sub
 have h1 := DB hrr hc
 have h2 := CT hrr hc
 have h3 := h.sl.c k (by omega)
 have h4 := h.sl.t k (by omega)
 have ht : (xs.take k).length = (st.take k).length := by rw [List.length_take, List.length_take, h.len]
 have hk2 : (st.take k).length = k := by rw [List.length_take]; omega
 refine ⟨(h.sw' hk).branch hr c, ?_, by simp only [List.length_append, ht]; rfl, h.bl, by have := h.s0; omega, by have := h.sb; omega, ?_⟩
 ·have hl1 : ((st.getD k lC).2 ++ T).length + 4001 * cnt (oa rest c) ≤ 16004000 := by rw [List.length_append]; omega
  have hl2 : ((st.getD k lC).2 ++ T ++ [c]).length + 4001 * cnt (qK rest c) ≤ 16004000 := by rw [List.length_append, List.length_append, List.length_singleton]; omega
  have s1 := (h.sl.take h.len k).snoc ht (x := x1) (y := (oa rest c, (st.getD k lC).2 ++ T)) (by rw [e1]; exact BJ hrr c) (by dsimp only; rw [len_le]; exact hrl) (by dsimp only; omega) hl1
  have s2 := s1.snoc (by simp only [List.length_append, ht]; rfl) (x := x2) (y := (qK rest c, (st.getD k lC).2 ++ T ++ [c])) (by rw [e2]; exact wc hrr c) (by dsimp only; have := GV rest c; omega) (by rw [List.length_append, List.length_singleton]; dsimp only; omega) hl2
  rw [List.append_assoc, List.append_assoc] at s2
  exact s2
 ·have h5 := vi (st := st.take k) (x := st.getD k lC) (a := (st.getD k lC).2 ++ T) (b := (st.getD k lC).2 ++ T ++ [c]) hrr hr hc
  rw [← sW hk] at h5
  have h6 := h.ps
  have h7 := h.s0
  omega
theorem mO.out (h : mO n L bud xs st best steps) (hk : st.length = k + 1) (hr : lD (st.getD k lC).1 rest T) (hrr : dX n' rest = true) (hc : qv rest c) (he : steps = bud) : bud.toNat + 1 < 2 ^ cnt L := by
 have h5 := vi (st := st.take k) (x := st.getD k lC) (a := []) (b := []) hrr hr hc
 rw [← sW hk] at h5
 have h6 := h.ps
 have h7 := Nat.two_pow_pos (cnt L)
 subst he
 omega
theorem mO.phi_lt (h : st.length = k + 1) : zR (st.take k) < zR st := by
 have := HW (st.take k) (st.getD k lC)
 rw [← sW h] at this
 exact this
theorem mO.phi_br (hk : st.length = k + 1) (hr : lD (st.getD k lC).1 rest T) (hrr : dX n' rest = true) (hc : qv rest c) {a b : List Int} : zR (st.take k ++ [(oa rest c, a), (qK rest c, b)]) < zR st := by
 have := Dz (st := st.take k) (x := st.getD k lC) (a := a) (b := b) hrr hr hc
 rw [← sW hk] at this
 exact this
end
theorem gM.two {TV TI : TypeId} {W : World} {xs : List Bn} {st : List C1} {x1 x2 : Bn} {y1 y2 : C1} {vs1 vs2 : List Value} (h : gM TV TI W xs st) (a1 : dh encV 1 TV W 0 x1.rv vs1) (a2 : LO TI 0 W vs1 y1.1) (a3 : dh d9 1 TI W 0 x1.tv y1.2)
  (b1 : dh encV 1 TV W 0 x2.rv vs2) (b2 : LO TI 0 W vs2 y2.1) (b3 : dh d9 1 TI W 0 x2.tv y2.2) : gM TV TI W (xs ++ [x1, x2]) (st ++ [y1, y2]) := by
 have := (h.snoc a1 a2 a3).snoc b1 b2 b3
 rwa [List.append_assoc, List.append_assoc] at this
theorem MM {n : Int} {v u : Value} (h : v.oneCell' = true) (k : u.oneCell' = true) : [Value.int .i64 n, v, u].all Value.oneCell' = true := by simp only [List.all_cons, List.all_nil, h, k, Bool.and_true]; rfl
section
variable {P : Program} {f : Nat → Value} {w : World} {d : Option Nat} {t t2 ty : TypeId} {ps : String} {af : Array Edge} {g : Option (Nat × Bool)} {x y : Operand}
theorem GS {a b : Int} {k : Nat} (hx : dO f x = .int .i64 a) (hy : dO f y = .int .i64 b) (hk : a - b = (k : Int)) (hl : k ≤ 1000000000) :
  (execOp (dO f) ⟨d, .binOp .sub t x y t2, ty, ps, af, g⟩).run P w = .ok (.value (.int .i64 (k : Int))) w := by
 rw [← hk]
 exact kU hx hy (by omega) (by omega)
end
theorem KK {n m : Int} {a b c d : Value} (ha : a.oneCell' = true) (hb : b.oneCell' = true) (hc : c.oneCell' = true) (hd : d.oneCell' = true) : ([(⟨n, a, b⟩ : Bn), ⟨m, c, d⟩].flatMap CP).all Value.oneCell' = true := by
 simp only [List.flatMap_cons, List.flatMap_nil, CP, List.append_nil, List.cons_append, List.nil_append, List.all_cons, List.all_nil, ha, hb, hc, hd, Bool.and_true]
 rfl
theorem pC {L : Array Bool} {i : Nat} (hi : i < L.size) : (L.setIfInBounds i true).getD i false = true := (PN hi).trans (if_pos rfl)
theorem ek {L : Array Bool} {i j : Nat} (hi : i < L.size) (h : j ≠ i) : (L.setIfInBounds i true).getD j false = L.getD j false := (PN hi).trans (if_neg h)
theorem ir.cast {TV TI : TypeId} {wd W : World} {n c : Int} {rest : ML} {vs8 : List Value} {ov : Value} {out : List Int} {f3 f5 f8 f9 f11 f13 f14 f15 g3 g5 g8 g9 g11 g13 g14 g15 : Bool} {u3 u5 u8 u9 u11 u13 u14 u15 : Value}
  (h : ir TV TI wd n c rest vs8 ov out f3 f5 f8 f9 f11 f13 f14 f15 u3 u5 u8 u9 u11 u13 u14 u15 W) (e3 : g3 = f3) (e5 : g5 = f5) (e8 : g8 = f8) (e9 : g9 = f9) (e11 : g11 = f11) (e13 : g13 = f13) (e14 : g14 = f14) (e15 : g15 = f15) :
  ir TV TI wd n c rest vs8 ov out g3 g5 g8 g9 g11 g13 g14 g15 u3 u5 u8 u9 u11 u13 u14 u15 W := by
 subst e3 e5 e8 e9 e11 e13 e14 e15
 exact h
theorem Lg {n : Int} {Lx rest : ML} {T : List Int} (hr : dX n Lx = true) (hf : i5 Lx Lx.length = true) (h : lD Lx rest T) (hp : 0 < rest.length) : ∃ c, qv rest c := by
 have hm : rest.getD 0 [] ∈ rest := dS hp
 have := E7 hr hf h _ hm
 exact ⟨_, _, hm, dS (d := 0) this⟩
theorem mO.fin {n : Int} {L : ML} {bud steps : Int} {xs : List Bn} {st : List C1} {best : List Int} (h : mO n L bud xs st best steps) (hr : dX n L = true) (hx : xs.length = 0) : Kt L n (kC best n.toNat) := by
 have : st = [] := List.eq_nil_of_length_eq_zero (by rw [← h.len]; exact hx)
 subst this
 exact h.sw.fin hr
end
end Go.Proofs.YteimkklmmanncaaGreat
