/- Scopes and labels that nothing jumps to; a row of three closures. The walk of the making smaller, step after step. What the search's small helps come to, without the program. The walks of the search's small helps. The walk of one covering, greedily. Operations of a region that may come in any order, -/
import Derived.Test.YteimkklmmanncaaGreatZ8
import Derived.Scope
namespace Go.Proofs.YteimkklmmanncaaGreat
set_option linter.unusedVariables false
set_option linter.unusedSimpArgs false
section
open Go Go.RowKit
def Jv (Q : Exit → (Nat → Value) → World → Prop) : Exit → (Nat → Value) → World → Prop
 | .goto _ => fun _ _ => False
 | e => Q e
section
variable {P : Program} {n : Nat} {Q Q' : Exit → (Nat → Value) → World → Prop} {f : Nat → Value} {w : World}
theorem Bn {c : Code} (h : WC P n c (Jv Q) f w) : WC P n (.scope c) Q f w := by
 refine ⟨fun a ha => wp_scope_straight (Code.wp_mono (fun e a' w' hq => ?_) (h.out a ha))⟩
 obtain ⟨f', hr, hq⟩ := hq
 cases e with
 | goto l => exact hq.elim
 | _ => exact ⟨f', hr, hq⟩
theorem B5 {l : Nat} (h : Q .normal f w) : WC P n (.label l) Q f w := ⟨fun _ ha => wp_label ⟨f, ha, h⟩⟩
instance retQ_scope [h : Ch Q Q'] : Ch (Jv Q) Q' := ⟨fun f w q => h.out f w q⟩
end
theorem ME {P : Program} {f : Nat → Value} {w : World} {t u s k b : Nat} {T T' : TypeId} {c : Array Value} {v v2 : Value} {Post : Value → World → Prop} (h : f t = v) (h1 : f u = .pointer (some ⟨b, 0, none⟩)) (hT : lk P T = some k) (hm : At w b c T') (hk : k = c.size) (h2 : f s = v2) (hp : Post (.tuple #[v, .agg c, v2]) w) : na P #[.tmp t, .cell u T, .tmp s] Post .ret f w := by
 refine ⟨_, fun tmps fn ht hr => ?_, hp⟩
 have e := ht t
 have e1 := ht u
 have e2 := ht s
 rw [h] at e
 rw [h1] at e1
 rw [h2] at e2
 have hl := mn (hk ▸ hT) hm
 simp only [Array.getD_eq_getD_getElem?] at e e1 e2
 simp [results, hr, e, e1, e2, asAddr, hl]
def Qu (bm bt q1 q2 q3 : Nat) : List Value := [.func (.func q1) #[] #[.pointer (some ⟨bm, 0, none⟩), .pointer (some ⟨bt, 0, none⟩)], .func (.func q2) #[] #[.pointer (some ⟨bm, 0, none⟩)], .func (.func q3) #[] #[.pointer (some ⟨bm, 0, none⟩)]]
def RD (q1 q2 q3 : Nat) : Nat → Nat
 | 0 => q1
 | 1 => q2
 | _ => q3
def RA (bm bt : Nat) : Nat → Array Value
 | 0 => #[.pointer (some ⟨bm, 0, none⟩), .pointer (some ⟨bt, 0, none⟩)]
 | _ => #[.pointer (some ⟨bm, 0, none⟩)]
theorem M1 {bm bt q1 q2 q3 i : Nat} (hi : i < 3) : (Qu bm bt q1 q2 q3).getD i undef = .func (.func (RD q1 q2 q3 i)) #[] (RA bm bt i) := by
 match i, hi with
 | 0, _ => rfl
 | 1, _ => rfl
 | 2, _ => rfl
theorem Se {P : Program} {q1 q2 q3 i : Nat} (h1 : dD P q1 = true) (h2 : dD P q2 = true) (h3 : dD P q3 = true) : dD P (RD q1 q2 q3 i) = true := by
 match i with
 | 0 => exact h1
 | 1 => exact h2
 | _ + 2 => exact h3
end
section
open Go Go.RowKit
theorem Ob : dD Tryz.prog 74 = true := by kernel_rfl
theorem AD : fC Tryz.prog 85 = true := by kernel_rfl
theorem nD : l6 Tryz.prog 85 = some (3, 4) := by kernel_rfl
theorem PP : dD Tryz.prog 76 = true := by kernel_rfl
theorem PS : dD Tryz.prog 78 = true := by kernel_rfl
theorem OZ : eQ Tryz.prog 85 = some (.map none) := by kernel_rfl
theorem wx : fW Tryz.prog 118 = some (28, 1, 8) := by kernel_rfl
theorem LJ : (eQ Tryz.prog 28).map (fun z => z.cells.size) = some 1 := by kernel_rfl
theorem Lq : fC Tryz.prog 28 = true := by kernel_rfl
theorem Qq : dD Tryz.prog 73 = true := by kernel_rfl
theorem PB : dD Tryz.prog 75 = true := by kernel_rfl
theorem PJ : dD Tryz.prog 77 = true := by kernel_rfl
theorem s9 (N bm bt bk b3 : Nat) (n : Int) (xs rv : Value) (fs vs : List Value) (L0 L : ML) (ks : List Int) (w : World) (hN0 : N ≤ w.heap.size) (hm : At w bm #[.int .i64 n, rv] 77) (hrv : dh encV 1 80 w 0 rv vs) (hLO : LO 3 0 w vs L) (hr : d6 n L = true) (hLb : L.length ≤ 1000000) (hrd : lT L0 L ks) (h3 : At w b3 #[.int .i64 0, .slice none 0 0] 77) (hbt : At w bt #[.map (some bk)] 85) (hst : dh encV 1 28 w N xs fs) (hks : dT eO Value.bool w bk (fF ks)) (lom : N ≤ bm) (lok : N ≤ bk) (hne : b3 ≠ bm) :
    rg Tryz.prog 73 #[.pointer (some ⟨bm, 0, none⟩), .pointer (some ⟨bt, 0, none⟩)] w fun v w' => Below N w w' ∧ At w' b3 #[.int .i64 0, .slice none 0 0] 77 ∧ At w' bt #[.map (some bk)] 85 ∧ dh encV 1 28 w' N xs fs ∧ ∃ rv' vs' L' ks' b, v = .bool b ∧ At w' bm #[.int .i64 n, rv'] 77 ∧ dh encV 1 80 w' 0 rv' vs' ∧ LO 3 0 w' vs' L' ∧ dT eO Value.bool w' bk (fF ks') ∧ NC L0 L' L ks' n b := by
 refine fc (n := 17) Tryz.func73 rfl rfl (Nat.le_of_ble_eq_true rfl) ?_
 have hB : Below N w w := Below.refl _ _
 refine Zr <| Zw (.bool false) rfl <| cT <| Zr <| Zv (db rfl dJ rfl hm) <| ZC (vs := [.agg #[_, _]]) Ob (xQ n rv vs L _ hrv hLO hr hLb) rfl fun z W5 i q => ?_
 replace hm := i.at hm
 replace hrv := i.ow hrv
 replace hLO := LO.ext i hLO
 replace h3 := i.at h3
 replace hbt := i.at hbt
 replace hst := i.ow hst
 replace hks := i.mapT hks
 replace hB := dH hB i hN0
 obtain ⟨rv1_1, A, L1_1, c1_1, h, rfl, hk1_1, hLO1_1, htp1_1⟩ := q
 refine Zw (.tuple #[.agg #[.int .i64 _, rv1_1], .int .i64 c1_1, .bool h]) rfl <| Zv (m7 rfl) <| Zv (rW rfl) <| Zv (rZ rfl) <| Zy (dw ij rfl fun r W8 l f c => ?_)
 have s : N ≤ r := l ▸ (Nat.le_trans hN0 (Below.size hB))
 have o := Zn l hm.lt
 have t := Zn l h3.lt
 clear l
 replace hm := f.at hm
 replace hrv := f.ow hrv
 replace hLO := LO.ext f hLO
 replace h3 := f.at h3
 replace hbt := f.at hbt
 replace hst := f.ow hst
 replace hks := f.mapT hks
 replace hB := dH hB f hN0
 replace hk1_1 := f.ow hk1_1
 replace hLO1_1 := LO.ext f hLO1_1
 refine Zy (dg rfl rfl dJ rfl c rfl (by exact ik (dh.one hk1_1)) fun B g u => ?_)
 replace hm := At.grownNe hm o g
 replace hrv := dh.grownAt hrv c g Dd
 replace hLO := LO.grownAt hLO c g Dd
 replace h3 := At.grownNe h3 t g
 replace hbt := At.grownAt hbt c g Dd
 replace hst := dh.grownAt hst c g Dd
 replace hks := dT.grownAt hks c g
 replace hB := du hB g hN0 (fun j hj => by cases hj; exact s)
 replace hk1_1 := dh.grownAt hk1_1 c g Dd
 replace hLO1_1 := LO.grownAt hLO1_1 c g Dd
 replace c := u
 refine Zw (.int .i64 c1_1) rfl <| Zw (.bool h) rfl <| cT <| cZ fun C p => Zr <| Zv (db rfl dJ rfl c) <| Zy (dg rfl rfl dJ rfl hm rfl (by exact ik (dh.one hk1_1)) fun D d x => ?_)
 replace hrv := dh.grownAt hrv hm d Dd
 replace hLO := LO.grownAt hLO hm d Dd
 replace h3 := At.grownNe h3 hne d
 replace hbt := At.grownAt hbt hm d Dd
 replace hst := dh.grownAt hst hm d Dd
 replace hks := dT.grownAt hks hm d
 replace hB := du hB d hN0 (fun j hj => by cases hj; exact lom)
 replace hk1_1 := dh.grownAt hk1_1 hm d Dd
 replace hLO1_1 := LO.grownAt hLO1_1 hm d Dd
 replace c := At.grownNe c (Ne.symm o) d
 clear d hm
 replace hm := x
 refine cT <| Zr <| Zw (.bool h) rfl <| cT <| ZQ rfl (fun m => ?_) fun m => ?_
 refine cY <| ZL (.map (some bk)) rfl AD hbt rfl <| Zw (.int .i64 c1_1) rfl ?_
 refine gW (dd := none) rfl rfl rfl (fS (enc := eO) (encV := Value.bool) (k := c1_1) (v := true) rfl rfl rfl nD gM (fun a => ⟨a, rfl⟩) gf hks (fun E e y => ?_))
 replace hm := At.grownMap hm hks e
 replace hrv := dh.grownMap hrv hks e
 replace hLO := LO.grownMap hLO hks e
 replace h3 := At.grownMap h3 hks e
 replace hbt := At.grownMap hbt hks e
 replace hst := dh.grownMap hst hks e
 replace hB := du hB e hN0 (fun j hj => by cases hj; exact lok)
 replace hk1_1 := dh.grownMap hk1_1 hks e
 replace hLO1_1 := LO.grownMap hLO1_1 hks e
 replace c := At.grownMap c hks e
 clear e hks
 replace hks := y
 rw [jz] at hks
 refine cT <| p _ _ <| Zr <| Zw (.bool h) rfl <| Zw (.bool h) rfl <| cT <| Zt <| dE (v := .bool h) rfl ?_
 subst m
 exact ⟨hB, h3, hbt, hst, _, _, _, _, _, rfl, hm, hk1_1, hLO1_1, hks, Ky hrd hr htp1_1⟩
 refine c9 <| p _ _ <| Zr <| Zw (.bool h) rfl <| Zw (.bool h) rfl <| cT <| Zt <| dE (v := .bool h) rfl ?_
 subst m
 exact ⟨hB, h3, hbt, hst, _, _, _, _, _, rfl, hm, hk1_1, hLO1_1, hks, GX hrd hr htp1_1⟩
theorem rR (N bm bt bk b3 : Nat) (n : Int) (xs rv : Value) (fs vs : List Value) (L0 L : ML) (ks : List Int) (w : World) (hN0 : N ≤ w.heap.size) (hm : At w bm #[.int .i64 n, rv] 77) (hrv : dh encV 1 80 w 0 rv vs) (hLO : LO 3 0 w vs L) (hr : d6 n L = true) (hLb : L.length ≤ 1000000) (hrd : lT L0 L ks) (h3 : At w b3 #[.int .i64 0, .slice none 0 0] 77) (hbt : At w bt #[.map (some bk)] 85) (hst : dh encV 1 28 w N xs fs) (hks : dT eO Value.bool w bk (fF ks)) (lom : N ≤ bm) (lok : N ≤ bk) (hne : b3 ≠ bm) :
    rg Tryz.prog 75 #[.pointer (some ⟨bm, 0, none⟩)] w fun v w' => Below N w w' ∧ At w' b3 #[.int .i64 0, .slice none 0 0] 77 ∧ At w' bt #[.map (some bk)] 85 ∧ dh encV 1 28 w' N xs fs ∧ ∃ rv' vs' L' ks' b, v = .bool b ∧ At w' bm #[.int .i64 n, rv'] 77 ∧ dh encV 1 80 w' 0 rv' vs' ∧ LO 3 0 w' vs' L' ∧ dT eO Value.bool w' bk (fF ks') ∧ NC L0 L' L ks' n b := by
 refine fc (n := 11) Tryz.func75 rfl rfl (Nat.le_of_ble_eq_true rfl) ?_
 have hB : Below N w w := Below.refl _ _
 refine Zr <| Zw (.bool false) rfl <| cT <| Zr <| Zv (db rfl dJ rfl hm) <| ZC (vs := [.agg #[_, _]]) PP (x6 n rv vs L _ hrv hLO hr hLb) rfl fun r W5 f k => ?_
 replace hm := f.at hm
 replace hrv := f.ow hrv
 replace hLO := LO.ext f hLO
 replace h3 := f.at h3
 replace hbt := f.at hbt
 replace hst := f.ow hst
 replace hks := f.mapT hks
 replace hB := dH hB f hN0
 obtain ⟨rv1_1, s, L1_1, g, rfl, hk1_1, hLO1_1, htp1_1⟩ := k
 refine Zw (.tuple #[.agg #[.int .i64 _, rv1_1], .bool g]) rfl <| Zv (dK rfl) <| Zv (dM rfl) <| Zy (dw ij rfl fun l W8 h d a => ?_)
 have m : N ≤ l := h ▸ (Nat.le_trans hN0 (Below.size hB))
 have i := Zn h hm.lt
 have o := Zn h h3.lt
 clear h
 replace hm := d.at hm
 replace hrv := d.ow hrv
 replace hLO := LO.ext d hLO
 replace h3 := d.at h3
 replace hbt := d.at hbt
 replace hst := d.ow hst
 replace hks := d.mapT hks
 replace hB := dH hB d hN0
 replace hk1_1 := d.ow hk1_1
 replace hLO1_1 := LO.ext d hLO1_1
 refine Zy (dg rfl rfl dJ rfl a rfl (by exact ik (dh.one hk1_1)) fun t e p => ?_)
 replace hm := At.grownNe hm i e
 replace hrv := dh.grownAt hrv a e Dd
 replace hLO := LO.grownAt hLO a e Dd
 replace h3 := At.grownNe h3 o e
 replace hbt := At.grownAt hbt a e Dd
 replace hst := dh.grownAt hst a e Dd
 replace hks := dT.grownAt hks a e
 replace hB := du hB e hN0 (fun j hj => by cases hj; exact m)
 replace hk1_1 := dh.grownAt hk1_1 a e Dd
 replace hLO1_1 := LO.grownAt hLO1_1 a e Dd
 replace a := p
 refine Zw (.bool g) rfl <| cT <| Zr <| Zv (db rfl dJ rfl a) <| Zy (dg rfl rfl dJ rfl hm rfl (by exact ik (dh.one hk1_1)) fun u c q => ?_)
 replace hrv := dh.grownAt hrv hm c Dd
 replace hLO := LO.grownAt hLO hm c Dd
 replace h3 := At.grownNe h3 hne c
 replace hbt := At.grownAt hbt hm c Dd
 replace hst := dh.grownAt hst hm c Dd
 replace hks := dT.grownAt hks hm c
 replace hB := du hB c hN0 (fun j hj => by cases hj; exact lom)
 replace hk1_1 := dh.grownAt hk1_1 hm c Dd
 replace hLO1_1 := LO.grownAt hLO1_1 hm c Dd
 replace a := At.grownNe a (Ne.symm i) c
 clear c hm
 replace hm := q
 refine cT <| Zr <| Zw (.bool g) rfl <| Zw (.bool g) rfl <| cT <| Zt <| dE (v := .bool g) rfl ?_
 exact ⟨hB, h3, hbt, hst, _, _, _, _, _, rfl, hm, hk1_1, hLO1_1, hks, Ij hrd hr htp1_1⟩
theorem sc (N bm bt bk b3 : Nat) (n : Int) (xs rv : Value) (fs vs : List Value) (L0 L : ML) (ks : List Int) (w : World) (hN0 : N ≤ w.heap.size) (hm : At w bm #[.int .i64 n, rv] 77) (hrv : dh encV 1 80 w 0 rv vs) (hLO : LO 3 0 w vs L) (hr : d6 n L = true) (hLb : L.length ≤ 1000000) (hrd : lT L0 L ks) (h3 : At w b3 #[.int .i64 0, .slice none 0 0] 77) (hbt : At w bt #[.map (some bk)] 85) (hst : dh encV 1 28 w N xs fs) (hks : dT eO Value.bool w bk (fF ks)) (lom : N ≤ bm) (lok : N ≤ bk) (hne : b3 ≠ bm) :
    rg Tryz.prog 77 #[.pointer (some ⟨bm, 0, none⟩)] w fun v w' => Below N w w' ∧ At w' b3 #[.int .i64 0, .slice none 0 0] 77 ∧ At w' bt #[.map (some bk)] 85 ∧ dh encV 1 28 w' N xs fs ∧ ∃ rv' vs' L' ks' b, v = .bool b ∧ At w' bm #[.int .i64 n, rv'] 77 ∧ dh encV 1 80 w' 0 rv' vs' ∧ LO 3 0 w' vs' L' ∧ dT eO Value.bool w' bk (fF ks') ∧ NC L0 L' L ks' n b := by
 refine fc (n := 11) Tryz.func77 rfl rfl (Nat.le_of_ble_eq_true rfl) ?_
 have hB : Below N w w := Below.refl _ _
 refine Zr <| Zw (.bool false) rfl <| cT <| Zr <| Zv (db rfl dJ rfl hm) <| ZC (vs := [.agg #[_, _]]) PS (tP n rv vs L _ hrv hLO hr hLb) rfl fun r W5 f k => ?_
 replace hm := f.at hm
 replace hrv := f.ow hrv
 replace hLO := LO.ext f hLO
 replace h3 := f.at h3
 replace hbt := f.at hbt
 replace hst := f.ow hst
 replace hks := f.mapT hks
 replace hB := dH hB f hN0
 obtain ⟨rv1_1, s, L1_1, g, rfl, hk1_1, hLO1_1, htp1_1⟩ := k
 refine Zw (.tuple #[.agg #[.int .i64 _, rv1_1], .bool g]) rfl <| Zv (dK rfl) <| Zv (dM rfl) <| Zy (dw ij rfl fun l W8 h d a => ?_)
 have m : N ≤ l := h ▸ (Nat.le_trans hN0 (Below.size hB))
 have i := Zn h hm.lt
 have o := Zn h h3.lt
 clear h
 replace hm := d.at hm
 replace hrv := d.ow hrv
 replace hLO := LO.ext d hLO
 replace h3 := d.at h3
 replace hbt := d.at hbt
 replace hst := d.ow hst
 replace hks := d.mapT hks
 replace hB := dH hB d hN0
 replace hk1_1 := d.ow hk1_1
 replace hLO1_1 := LO.ext d hLO1_1
 refine Zy (dg rfl rfl dJ rfl a rfl (by exact ik (dh.one hk1_1)) fun t e p => ?_)
 replace hm := At.grownNe hm i e
 replace hrv := dh.grownAt hrv a e Dd
 replace hLO := LO.grownAt hLO a e Dd
 replace h3 := At.grownNe h3 o e
 replace hbt := At.grownAt hbt a e Dd
 replace hst := dh.grownAt hst a e Dd
 replace hks := dT.grownAt hks a e
 replace hB := du hB e hN0 (fun j hj => by cases hj; exact m)
 replace hk1_1 := dh.grownAt hk1_1 a e Dd
 replace hLO1_1 := LO.grownAt hLO1_1 a e Dd
 replace a := p
 refine Zw (.bool g) rfl <| cT <| Zr <| Zv (db rfl dJ rfl a) <| Zy (dg rfl rfl dJ rfl hm rfl (by exact ik (dh.one hk1_1)) fun u c q => ?_)
 replace hrv := dh.grownAt hrv hm c Dd
 replace hLO := LO.grownAt hLO hm c Dd
 replace h3 := At.grownNe h3 hne c
 replace hbt := At.grownAt hbt hm c Dd
 replace hst := dh.grownAt hst hm c Dd
 replace hks := dT.grownAt hks hm c
 replace hB := du hB c hN0 (fun j hj => by cases hj; exact lom)
 replace hk1_1 := dh.grownAt hk1_1 hm c Dd
 replace hLO1_1 := LO.grownAt hLO1_1 hm c Dd
 replace a := At.grownNe a (Ne.symm i) c
 clear c hm
 replace hm := q
 refine cT <| Zr <| Zw (.bool g) rfl <| Zw (.bool g) rfl <| cT <| Zt <| dE (v := .bool g) rfl ?_
 exact ⟨hB, h3, hbt, hst, _, _, _, _, _, rfl, hm, hk1_1, hLO1_1, hks, Ij hrd hr htp1_1⟩
theorem Qp (i : Nat) (N bm bt bk b3 : Nat) (n : Int) (xs rv : Value) (fs vs : List Value) (L0 L : ML) (ks : List Int) (w : World) (hN0 : N ≤ w.heap.size) (hm : At w bm #[.int .i64 n, rv] 77) (hrv : dh encV 1 80 w 0 rv vs) (hLO : LO 3 0 w vs L) (hr : d6 n L = true) (hLb : L.length ≤ 1000000) (hrd : lT L0 L ks) (h3 : At w b3 #[.int .i64 0, .slice none 0 0] 77) (hbt : At w bt #[.map (some bk)] 85) (hst : dh encV 1 28 w N xs fs) (hks : dT eO Value.bool w bk (fF ks)) (lom : N ≤ bm) (lok : N ≤ bk) (hne : b3 ≠ bm) (hi : i < 3) :
    rg Tryz.prog (RD 73 75 77 i) (RA bm bt i) w fun v w' => Below N w w' ∧ At w' b3 #[.int .i64 0, .slice none 0 0] 77 ∧ At w' bt #[.map (some bk)] 85 ∧ dh encV 1 28 w' N xs fs ∧ ∃ rv' vs' L' ks' b, v = .bool b ∧ At w' bm #[.int .i64 n, rv'] 77 ∧ dh encV 1 80 w' 0 rv' vs' ∧ LO 3 0 w' vs' L' ∧ dT eO Value.bool w' bk (fF ks') ∧ NC L0 L' L ks' n b := by
  match i, hi with
  | 0, _ => exact s9 N bm bt bk b3 n xs rv fs vs L0 L ks w hN0 hm hrv hLO hr hLb hrd h3 hbt hst hks lom lok hne
  | 1, _ => exact rR N bm bt bk b3 n xs rv fs vs L0 L ks w hN0 hm hrv hLO hr hLb hrd h3 hbt hst hks lom lok hne
  | 2, _ => exact sc N bm bt bk b3 n xs rv fs vs L0 L ks w hN0 hm hrv hLO hr hLb hrd h3 hbt hst hks lom lok hne
theorem pe (n : Int) (rv : Value) (vs : List Value) (L : ML) (w : World) (hrv : dh encV 1 80 w 0 rv vs) (hLO : LO 3 0 w vs L) (hr : d6 n L = true) (hLb : L.length ≤ 1000000) :
    Fn Tryz.prog 44 #[.agg #[.int .i64 n, rv]] w fun v w' => ∃ tv T rv' vs' L', v = .tuple #[tv, .agg #[.int .i64 n, rv'], .int .i64 0] ∧ dh ee 1 3 w' w.heap.size tv T ∧ dh encV 1 80 w' 0 rv' vs' ∧ LO 3 0 w' vs' L' ∧ lT L L' T ∧ d6 n L' = true ∧ L'.length ≤ L.length ∧ T.length ≤ n.toNat := by
 refine dr (n := 44) Tryz.func44 rfl rfl (Nat.le_of_ble_eq_true rfl) ?_
 have hB : Below w.heap.size w w := Below.refl _ _
 have hll := hLO.ll
 have hvl := hll.len
 refine Zr <| Zy (dW (c := #[_, _]) rfl rfl fun h W3 N ad e => ?_)
 have ae := ZO N hB
 clear N
 replace hB := Ze hB ad
 refine Zw (.slice none 0 0) rfl <| Zy (dw ij rfl fun B W6 G O d => ?_)
 have af := ZO G hB
 have H := Zn G e.lt
 clear G
 replace hB := Ze hB O
 replace e := O.at e
 refine Zw (.int .i64 0) rfl <| cT <| Bn <| cZ fun K9 ag => Zr <| Zv (db rfl dJ rfl e) <| ZC (vs := [.agg #[_, _]]) xx (jQ n _ _ L _ ((Below.ow hB hrv)).sl (LO.mono (LO.below hB hLO) (Nat.zero_le _)).ll hLb (fun i => Nat.le_trans (fU hr i) Dd)) rfl fun aL aM I ah => ?_
 replace hB := Ze hB I
 replace e := I.at e
 replace d := I.at d
 obtain rfl := ah
 refine Zv (fG rfl) <| cT <| ZQ rfl (fun P => ?_) fun P => ?_
 exact absurd (iI P) (by rw [hr]; decide)
 refine c9 <| ag _ _ <| Zr <| Zy (gN (enc := eO) (encV := Value.bool) fun C aN Q J l => ?_)
 have ai := ZO Q hB
 clear Q
 replace hB := Ze hB J
 replace e := J.at e
 replace d := J.at d
 replace l : dT eO Value.bool _ _ (fF []) := l
 refine Zy (dw OZ rfl fun j aO R D f => ?_)
 have aj := ZO R hB
 clear R
 replace hB := Ze hB D
 replace e := D.at e
 replace d := D.at d
 replace l := D.mapT l
 refine Zy (eH (v := .map (some C)) rfl rfl AD rfl f (by exact Nat.zero_lt_one) fun aP E ak => ?_)
 replace hB := Zg hB E aj
 replace e := At.grownAt e f E Dd
 replace d := At.grownAt d f E Dd
 replace l := dT.grownAt l f E
 replace f := ak
 replace f : At _ _ #[_] _ := f
 refine cT <| Zr <| Zw (.slice none 0 0) rfl <| cT <| Zr <| Zv (gZ (vs := #[.pointer (some ⟨h, 0, none⟩), .pointer (some ⟨j, 0, none⟩)]) (by simp only [List.map_toArray, List.map_cons, List.map_nil]; rfl)) <| Zv (gZ (vs := #[.pointer (some ⟨h, 0, none⟩)]) (by simp only [List.map_toArray, List.map_cons, List.map_nil]; rfl)) <| Zv (gZ (vs := #[.pointer (some ⟨h, 0, none⟩)]) (by simp only [List.map_toArray, List.map_cons, List.map_nil]; rfl)) <| Zy (N2 (u0 := .func (.func 73) #[] #[.pointer (some ⟨h, 0, none⟩), .pointer (some ⟨j, 0, none⟩)]) (u1 := .func (.func 75) #[] #[.pointer (some ⟨h, 0, none⟩)]) (u2 := .func (.func 77) #[] #[.pointer (some ⟨h, 0, none⟩)]) rfl rfl rfl wx LJ rfl rfl rfl fun p aQ S t al => ?_)
 have ao := ZO S hB
 clear S
 replace hB := Ze hB t
 replace e := t.at e
 replace d := t.at d
 replace l := t.mapT l
 replace f := t.at f
 have g := JR al ao
 replace g : dh encV 1 _ _ _ _ (Qu h j 73 75 77) := g
 refine Zw (.slice (some ⟨p, 0, none⟩) 3 3) rfl <| cT <| cZ fun aR ap => B5 <| ap _ _ <| cZ fun aS aq => c7 ?_
 refine dz (σ := (Value) × (List Value) × (ML) × (List Int)) [9, 20, 21, 22, 23, 24, 25, 26, 27, 28] (fun (rv1, s, L1, ks) => []) (fun sg W => match sg with | (rv1, s, L1, ks) => (Below w.heap.size w W) ∧ (At W B _ 77) ∧ (At W j _ 85) ∧ (dh encV 1 28 W w.heap.size (.slice (some ⟨p, 0, none⟩) 3 3) _) ∧ (At W h #[.int .i64 n, rv1] 77) ∧ (dh encV 1 80 W 0 rv1 s) ∧ (LO 3 0 W s (L1)) ∧ (dT eO Value.bool W C (fF ks)) ∧ (lT L L1 ks) ∧ (d6 n L1 = true) ∧ (L1.length ≤ L.length) ∧ (True)) (fun (rv1, s, L1, ks) => q8 L1) ((rv, vs, L, [])) trivial ⟨hB, d, f, g, e, (dh.mono (Below.ow hB hrv) (Nat.le_refl _)), (LO.below hB hLO), l, (lT.start L), hr, (Nat.le_refl _), trivial⟩ ?_
 clear hB e d l f g
 rintro ⟨rv1, s, L1, ks⟩ aT aU ⟨hB, d, f, g, e, hrw, hlo, hmk, hrd, hr1, hl1, _⟩ aV ar
 refine c7 <| cZ fun aW au => Zr <| Zw (.slice (some ⟨p, 0, none⟩) 3 3) rfl <| Zv (dB (v := .slice (some ⟨p, 0, none⟩) 3 3) rfl g.sl wx) <| Zw (.int .i64 0) rfl <| cT <| c7 ?_
 refine dz (σ := (Nat) × (Value) × (List Value) × (ML) × (List Int)) [9, 22, 23, 24, 25, 26, 27, 28] (fun (i, rv2, y, L2, ks2) => [(22, .int .i64 (i : Int))]) (fun sg W => match sg with | (i, rv2, y, L2, ks2) => (Below w.heap.size w W) ∧ (At W B _ 77) ∧ (At W j _ 85) ∧ (dh encV 1 28 W w.heap.size (.slice (some ⟨p, 0, none⟩) 3 3) _) ∧ (At W h #[.int .i64 n, rv2] 77) ∧ (dh encV 1 80 W 0 rv2 y) ∧ (LO 3 0 W y (L2)) ∧ (dT eO Value.bool W C (fF ks2)) ∧ (i ≤ 3) ∧ (lT L L2 ks2) ∧ (d6 n L2 = true) ∧ (L2.length ≤ L.length) ∧ (q8 L2 ≤ q8 L1) ∧ (True)) (fun (i, rv2, y, L2, ks2) => 3 - i) ((0, rv1, s, L1, ks)) ⟨rfl, trivial⟩ ⟨hB, d, f, g, e, hrw, hlo, hmk, (Nat.zero_le _), hrd, hr1, hl1, (Nat.le_refl _), trivial⟩ ?_
 clear hB d f g e hrw hlo hmk
 rintro ⟨i, rv2, y, L2, ks2⟩ aX z ⟨hB, d, f, g, e, hrw2, hlo2, hmk, hi, hrd2, hr2, hl2, U, _⟩ aY av
 have hcl : (Qu h j 73 75 77).length = 3 := rfl
 refine Zr <| Zv (dN rfl rfl) <| cT <| cZ fun aZ aw => ZQ rfl (fun ax => ?_) fun ax => ?_
 refine c9 <| aw _ _ <| cZ fun a0 ay => c7 <| Zr <| Zv (dI (v := .slice (some ⟨p, 0, none⟩) 3 3) rfl g.sl rfl wx Om Om) <| Zv (dk (v := ((Qu h j 73 75 77).getD i undef)) rfl Lq (dO.cell g.sl gj undef Om Om 0 rfl)) <| Zw ((Qu h j 73 75 77).getD i undef) rfl <| cT <| Zr <| Zw ((Qu h j 73 75 77).getD i undef) rfl ?_
 refine mY (dd := some 27) rfl rfl rfl (ka (q := RD 73 75 77 i) (first := #[]) (cap := RA h j i) (vs := RA h j i) (M1 Om) (Se Qq PB PJ) (by simp)) (Qp i _ _ _ _ _ n _ _ _ _ L L2 ks2 _ (Below.size hB) e hrw2 hlo2 hr2 Om hrd2 d f g hmk ae ai H.symm Om) (fun a1 a2 az => ?_)
 obtain ⟨hBt9_1, h39_1, ht9_1, aA, rv9_1, V, L9_1, ks9_1, a3, rfl, aB, hk9_1, hLO9_1, hq9_1, hS9_1⟩ := az
 replace hB := Below.trans hB hBt9_1
 replace e := aB
 replace d := h39_1
 replace f := ht9_1
 replace g := aA
 replace hmk := hq9_1
 clear hrw2 hlo2
 refine cT <| ZQ rfl (fun X => ?_) fun X => ?_
 refine dt ?_
 refine ar _ _ ((rv9_1, V, L9_1, ks9_1)) ?_ ?_ ?_ ?_
 · repeat (first | exact fJ.mask _ _ _ | refine fJ.updo ?_ rfl _ | refine fJ.updL ?_ _ rfl | refine fJ.maskS rfl ?_)
 · exact trivial
 · exact ⟨hB, d, f, g, (by exact e), hk9_1, hLO9_1, (by exact hmk), (hS9_1.rd), (hS9_1.r), (Nat.le_trans hS9_1.len hl2), trivial⟩
 · exact Nat.lt_of_lt_of_le (hS9_1.szt X) U
 refine c9 <| ay _ _ <| cY <| Zv (dp rfl rfl Om Om) <| Zi rfl <| cT ?_
 exact av _ _ ((i + 1, rv9_1, V, L9_1, ks9_1)) Za ⟨rfl, trivial⟩ ⟨hB, d, f, g, (by exact e), hk9_1, hLO9_1, (by exact hmk), Om, hS9_1.rd, hS9_1.r, (Nat.le_trans hS9_1.len hl2), (Nat.le_trans hS9_1.sz U), trivial⟩ Zo
 refine dt <| au _ _ <| dt <| aq _ _ <| cZ fun a4 aC => ?_
 have aD := Below.ow hB hrv
 have aE := LO.below hB hLO
 have K := hB
 replace hB := Below.refl z.heap.size z
 have hn0 := (fv.1 hr).1
 have hn4 := (fv.1 hr).2.1
 refine Zr <| Zf rfl iF <| Zl rfl dC (Below.atI hB e) rfl <| Zw (.int .i64 0) rfl <| cT <| c7 ?_
 refine dz (σ := (Nat) × (Value)) [6, 10, 31, 32, 33, 34, 35, 36, 37, 38, 39, 40, 41] (fun (cc, v0) => [(31, .int .i64 (cc : Int)), (6, v0)]) (fun sg W => match sg with | (cc, v0) => (Below z.heap.size z W) ∧ (dh ee 1 3 W z.heap.size v0 (kE ks2 cc)) ∧ ((cc : Int) ≤ n) ∧ (True)) (fun (cc, v0) => n.toNat - cc) ((0, .slice none 0 0)) ⟨rfl, rfl, trivial⟩ ⟨hB, dh.nil, Om, trivial⟩ ?_
 clear hB
 rintro ⟨cc, v0⟩ a5 a6 ⟨hB, ho, hcc, _⟩ a7 Y
 refine Zr <| Zv (dN rfl rfl) <| cT <| cZ fun a8 aF => ZQ rfl (fun aG => ?_) fun aG => ?_
 refine c9 <| aF _ _ <| cZ fun a9 Z => c7 <| Zr <| Zi rfl <| Zi rfl <| cT <| Zr <| ZL (.map (some C)) rfl AD (Below.atI hB f) rfl <| Zi rfl <| Zv (f7 (enc := eO) (encV := Value.bool) (v0 := false) (k := _) rfl rfl nD gM (fun a => ⟨a, rfl⟩) gf pp rfl (Below.mapI hB hmk)) <| cT <| ZQ rfl (fun A => ?_) fun A => ?_
 refine cY <| Zw v0 rfl <| Zi rfl <| Zy (eU (u := .int .i64 _) rfl dy fH rfl Dd Dd fun aa ba M ab aH => ?_)
 have bb := ZO M hB
 have bc := dh.neB (b := aa) ho (Nat.le_of_eq M.symm)
 clear M
 replace hB := Ze hB ab
 replace ho := ab.ow ho
 refine Zy (eC (v := v0) (v2 := .slice (some ⟨aa, 0, none⟩) 1 1) rfl rfl dy fH Dd ho (fm aH rfl) rfl (by have := Below.size hB; omega) (by have := lN ks2 cc; omega) (by have := lN ks2 cc; omega) fun ac bd aI F => ?_)
 replace F := dh.snoc (enc := ee) (x := _) rfl rfl rfl rfl F
 replace hB := ZG hB aI ho
 clear ho
 refine Zw ac rfl <| cT <| Z _ _ <| cY <| Zv (dp rfl rfl Om Om) <| Zi rfl <| cT ?_
 exact Y _ _ ((cc + 1, ac)) Za ⟨rfl, rfl, trivial⟩ ⟨hB, (by first | (rw [jg, if_pos (nI A)]; exact F) | (rw [jg, if_neg (lQ A)]; exact F)), Om, trivial⟩ (by show n.toNat - (cc + 1) < n.toNat - cc; omega)
 refine c9 <| Z _ _ <| cY <| Zv (dp rfl rfl Om Om) <| Zi rfl <| cT ?_
 exact Y _ _ ((cc + 1, v0)) Za ⟨rfl, rfl, trivial⟩ ⟨hB, (by first | (rw [jg, if_pos (nI A)]; exact ho) | (rw [jg, if_neg (lQ A)]; exact ho)), Om, trivial⟩ (by show n.toNat - (cc + 1) < n.toNat - cc; omega)
 refine dt <| aC _ _ ?_
 try clear aD
 try clear aE
 replace d := Below.atI hB d
 replace f := Below.atI hB f
 replace g := Below.ow hB g
 replace e := Below.atI hB e
 replace hrw2 := Below.ow hB hrw2
 replace hlo2 := LO.below hB hlo2
 replace hmk := Below.mapI hB hmk
 have hzs := Nat.le_trans (Nat.le_refl _) (Below.size K)
 replace ho := dh.mono ho hzs
 replace hB := Below.trans K (Below.mono hB hzs)
 clear K hzs
 obtain rfl : cc = n.toNat := by omega
 refine Zd (fun a b => a.grownBy b (some B)) fun aJ o => ?_
 replace d := o.at d
 replace f := o.at f
 replace g := o.ow g
 replace e := o.at e
 replace hrw2 := o.ow hrw2
 replace hlo2 := LO.ext o hlo2
 replace hmk := o.mapT hmk
 replace hB := Ze hB o
 replace ho := o.ow ho
 have bf := d
 have hS := World.grownBy.refl aJ (some B)
 refine Tw 0 v0 rfl rfl hS <| Tk 1 rfl (fun _ hq => db rfl dJ rfl (At.grownNe e H hq)) hS <| Tw 2 v0 rfl rfl hS <| To 3 rfl (dg rfl rfl dJ rfl d rfl (by exact ik (dh.one hrw2)) fun bg m aK => ⟨.inl (dG hS m), ?_⟩)
 replace hS := dG hS m
 replace f := At.grownAt f d m Dd
 replace g := dh.grownAt g d m Dd
 replace e := At.grownNe e H m
 replace hrw2 := dh.grownAt hrw2 d m Dd
 replace hlo2 := LO.grownAt hlo2 d m Dd
 replace hmk := dT.grownAt hmk d m
 replace hB := Zg hB m af
 replace ho := dh.grownAt ho d m Dd
 replace d := aK
 refine Tw 4 (.int .i64 0) rfl rfl hS <| Td <| Zt <| ME (v := v0) rfl rfl dJ d rfl (v2 := .int .i64 0) rfl ⟨hB, ?_⟩
 exact ⟨_, _, _, _, _, rfl, ho, dh.mono hrw2 (Nat.zero_le _), hlo2, lT.ris hr hrd2, hr2, hl2, lN _ _⟩
end
section
open Go Go.RowKit
theorem mG {L : ML} {k : Nat} : jk L k = true ↔ ∀ i, i < k → 0 < (L.getD i []).length := by
 unfold jk
 rw [List.all_eq_true]
 exact ⟨fun h i hi => of_decide_eq_true (h i (List.mem_range.2 hi)), fun h i hi => decide_eq_true (h i (List.mem_range.1 hi))⟩
theorem NL {L : ML} {k : Nat} (hk : k < L.length) (h : ((L.getD k []).length : Int) = 0) : Value.bool false = .bool (jk L L.length) := lW fun e => by
 have := mG.1 e k hk
 omega
theorem NR {L : ML} {k : Nat} (hk : k = L.length) (h : ∀ q, q < k → ¬ ((L.getD q []).length : Int) = 0) : Value.bool true = .bool (jk L L.length) := tV (mG.2 fun i hi => by
 have := h i (by omega)
 omega)
theorem JD {L : ML} {i j : Nat} (hj : j < (L.getD i []).length) (h : (ic (fF (xL L i)) ((L.getD i []).getD j 0)).getD false = true) : BB (xL L i) (L.getD i []) = true := List.any_eq_true.2 ⟨_, dU hj, decide_eq_true (nI h)⟩
theorem Pj {L : ML} {i j : Nat} (hj : j = (L.getD i []).length) (h : ∀ q, q < j → (ic (fF (xL L i)) ((L.getD i []).getD q 0)).getD false = false) : ¬ BB (xL L i) (L.getD i []) = true := fun e => by
 obtain ⟨c, h1, h2⟩ := List.any_eq_true.1 e
 obtain ⟨q, hq, rfl⟩ := fh (d := 0) h1
 exact lQ (h q (by omega)) (of_decide_eq_true h2)
theorem Nq {L : ML} {k : Nat} (h : BB (xL L k) (L.getD k []) = true) : xL L (k + 1) = xL L k := if_pos h
theorem NF {L : ML} {k : Nat} (h : ¬ BB (xL L k) (L.getD k []) = true) : xL L (k + 1) = pr (xL L k) (L.getD k []) (L.getD k []).length := if_neg h
theorem QM {L : ML} {k : Nat} (h : BB (xL L k) (L.getD k []) = true) : Value.int .i64 (CJ L k : Int) = .int .i64 (CJ L (k + 1) : Int) := by rw [CJ, if_pos h]
theorem QS {L : ML} {k : Nat} (h : ¬ BB (xL L k) (L.getD k []) = true) : Value.int .i64 ((CJ L k : Int) + 1) = .int .i64 (CJ L (k + 1) : Int) := by rw [CJ, if_neg h]; rfl
theorem Dr (L : ML) : ∀ k, CJ L k ≤ k
 | 0 => Nat.le_refl _
 | k + 1 => by
  have := Dr L k
  rw [CJ]
  split <;> omega
theorem R0 {r : List Int} {c : Int} {j : Nat} (h : c ∈ r.take j) : Value.bool true = .bool (decide (c ∈ r.take (j + 1))) := tV (decide_eq_true (by rw [List.take_add_one]; exact List.mem_append.2 (.inl h)))
theorem RF {r : List Int} {c : Int} {j : Nat} (hj : j < r.length) (h : ¬ c ∈ r.take j) : Value.bool (decide (r.getD j 0 = c)) = .bool (decide (c ∈ r.take (j + 1))) := by
 congr 1
 rw [decide_eq_decide, List.take_add_one, List.mem_append, List.getElem?_eq_getElem hj, List.getD_eq_getElem?_getD, List.getElem?_eq_getElem hj]
 simp only [Option.getD_some, Option.toList_some, List.mem_singleton]
 exact ⟨fun e => .inr e.symm, fun e => (e.resolve_left h).symm⟩
structure xM (L : ML) (i M : Nat) (l : List (Int × Int)) : Prop where
 nd : (l.map (·.1)).Nodup
 inl : ∀ c, c ∈ l.map (·.1) → qB L c
 lim : ∀ p, p ∈ l → 0 ≤ p.2 ∧ p.2 ≤ M
 ne : ∀ k, k < i → 0 < (L.getD k []).length → l ≠ []
section
variable {L : ML} {i j M : Nat} {l : List (Int × Int)} {c : Int}
theorem xM.nil : xM L 0 0 [] := ⟨List.nodup_nil, fun c h => (by cases h), fun p h => (by cases h), fun k hk => (by cases hk)⟩
theorem xM.mono {M' : Nat} (h : xM L i M l) (hM : M ≤ M') : xM L i M' l := ⟨h.nd, h.inl, fun p hp => ⟨(h.lim p hp).1, by have := (h.lim p hp).2; omega⟩, h.ne⟩
theorem xM.get (h : xM L i M l) (c : Int) : 0 ≤ (ic l c).getD 0 ∧ (ic l c).getD 0 ≤ M := by
 cases e : ic l c with
 | none => exact ⟨Int.le_refl _, Int.natCast_nonneg _⟩
 | some v => exact h.lim (c, v) ((mv h.nd).1 e)
theorem Gt {α β : Type} [DecidableEq α] {l : List (α × β)} {c : α} {v : β} {p : α × β} (h : p ∈ ie l c v) : p = (c, v) ∨ p ∈ l := by
 unfold ie at h
 split at h
 ·obtain ⟨q, hq, e⟩ := List.mem_map.1 h
  split at e
  ·exact .inl e.symm
  ·rw [← e]; exact .inr hq
 ·rcases List.mem_append.1 h with k | k
  ·exact .inr k
  ·exact .inl (List.mem_singleton.1 k)
theorem F8 {v : Int} : ie l c v ≠ [] := fun e => by
 have := kv l c v
 rw [e] at this
 have h2 : c ∈ iJ (l.map (·.1)) c := gv.2 (.inr rfl)
 rw [← this] at h2
 cases h2
theorem xM.put (h : xM L i M l) (hi : i < L.length) (hj : j < (L.getD i []).length) : xM L i (M + 1) (ie l ((L.getD i []).getD j 0) ((ic l ((L.getD i []).getD j 0)).getD 0 + 1)) := by
 refine ⟨?_, fun c hc => ?_, fun p hp => ?_, fun k _ _ => F8⟩
 ·rw [kv]; exact jB h.nd _
 ·rw [kv] at hc
  rcases gv.1 hc with k | rfl
  ·exact h.inl c k
  ·exact ⟨_, dU (d := []) hi, dU hj⟩
 ·rcases Gt hp with rfl | k
  ·have := h.get ((L.getD i []).getD j 0)
   exact ⟨by dsimp only; omega, by dsimp only; omega⟩
  ·have := h.lim p k
   exact ⟨this.1, by omega⟩
theorem xM.next {M' : Nat} (h : xM L i M l) (hn : 0 < (L.getD i []).length → l ≠ []) (hM : M ≤ M') : xM L (i + 1) M' l := ⟨h.nd, h.inl, fun p hp => ⟨(h.lim p hp).1, by have := (h.lim p hp).2; omega⟩, fun k hk hkl => by
 rcases Nat.lt_succ_iff_lt_or_eq.1 hk with q | rfl
 ·exact h.ne k q hkl
 ·exact hn hkl⟩
def Ri (L : ML) (seen : List Int) (b : Int) : Prop := (seen = [] ∧ b = -1) ∨ (0 ≤ b ∧ qB L b)
theorem D3 {n v : Int} {seen : List Int} (hr : d6 n L = true) (h : xM L i M l) (hc : (c, v) ∈ l) : Ri L (c :: seen) c :=
 have q := h.inl c (List.mem_map.2 ⟨_, hc, rfl⟩)
 .inr ⟨(ql hr q).1, q⟩
theorem IF {seen : List Int} {b : Int} (h : Ri L seen b) (hb : ¬ b < 0) : Ri L (c :: seen) b := .inr (h.resolve_left fun q => by have := q.2; omega)
theorem Qn {seen : List Int} {b : Int} (h : Ri L seen b) (hu : xM L i M l) (hi : i = L.length) (hs : ∀ p, p ∈ l → p.1 ∈ seen) (hk : ∃ k, k < L.length ∧ 0 < (L.getD k []).length) : qB L b := by
 obtain ⟨k, hk, hl⟩ := hk
 rcases h with ⟨rfl, _⟩ | h
 ·have := hu.ne k (by omega) hl
  match l, this, hs with
  | p :: _, _, hs => cases hs p (List.mem_cons_self ..)
 ·exact h.2
end
theorem D6 {a b : List Int} (h : ∀ c, c ∈ a ↔ c ∈ b) (k : Nat) : kE a k = kE b k := by
 unfold kE
 congr 1
 exact List.filter_congr fun c _ => decide_eq_decide.2 (h c)
theorem MT (l : List Int) (k : Nat) : kE (pr [] l l.length) k = kE l k := D6 (fun c => by
 rw [qa _ (Nat.le_refl _), List.take_length]
 simp) k
structure IM (n : Int) (L0 L : ML) (out : List Int) : Prop where
 r : d6 n L = true
 full : jk L L.length = true
 up : ∀ X, mX L X → mX L0 (out ++ X)
 len : out.length + L.length ≤ L0.length
theorem IM.start {n : Int} {L : ML} (hr : d6 n L = true) (hf : jk L L.length = true) : IM n L L [] := ⟨hr, hf, fun X h => h, by simp⟩
theorem wE {L : ML} : jk L L.length = true ↔ ∀ r, r ∈ L → r ≠ [] := by
 rw [mG]
 constructor
 ·intro h r hr
  obtain ⟨j, hj, rfl⟩ := fh (d := []) hr
  exact fun e => by have := h j hj; rw [e] at this; cases this
 ·intro h i hi
  exact List.length_pos_iff.2 (h _ (dU hi))
theorem IM.inl {n c : Int} {L0 L : ML} {out : List Int} (h : IM n L0 L out) (hp : (L.length : Int) > 0) (hb : (∃ k, k < L.length ∧ 0 < (L.getD k []).length) → qB L c) : qB L c :=
 hb ⟨0, by omega, mG.1 h.full 0 (by omega)⟩
theorem IM.next {n c : Int} {L0 L : ML} {out : List Int} (h : IM n L0 L out) (hc : qB L c) : IM n L0 (q6 L c) (out ++ [c]) := by
 refine ⟨vE h.r c, wE.2 fun r hr => wE.1 h.full r (nu.1 hr).1, fun X hX => ?_, ?_⟩
 ·rw [List.append_assoc]
  exact h.up _ (D0 hX)
 ·have := yF hc
  have := h.len
  rw [List.length_append, List.length_singleton]; omega
theorem IM.fin {n : Int} {L0 L : ML} {out : List Int} (h0 : d6 n L0 = true) (h : IM n L0 L out) (hp : ¬ (L.length : Int) > 0) : mX L0 (kE out n.toNat) := by
 have : L = [] := List.eq_nil_of_length_eq_zero (by omega)
 subst this
 have h2 := h.up [] (Gg _)
 rw [List.append_nil] at h2
 exact qb h0 h2
end
section
open Go Go.RowKit
theorem pX : l6 Tryz.prog 155 = some (3, 3) := by kernel_rfl
theorem nC (n : Int) (rv : Value) (vs : List Value) (L : ML) (w : World) (hrv : dh encV 1 80 w 0 rv vs) (hLO : LO 3 0 w vs L) (hLb : L.length ≤ 1000000) :
    Fn Tryz.prog 80 #[.agg #[.int .i64 n, rv]] w fun v w' => v = .bool (jk L L.length) := by
 refine dr (n := 16) Tryz.func80 rfl rfl (Nat.le_of_ble_eq_true rfl) ?_
 have hB : Below w.heap.size w w := Below.refl _ _
 have hll := hLO.ll
 have hvl := hll.len
 refine Zr <| Zy (dW (c := #[_, _]) rfl rfl fun e W3 d f a => ?_)
 have o := ZO d hB
 clear d
 replace hB := Ze hB f
 refine Zw (.bool false) rfl <| cT <| cZ fun K6 g => Zr <| Zf rfl ez <| ZL rv rfl fq a rfl <| Zv (dB (v := rv) rfl ((Below.ow hB hrv)).sl ef) <| Zw (.int .i64 0) rfl <| cT <| c7 ?_
 refine dz (σ := (Nat)) [2, 4, 8, 9, 10, 11, 12, 13, 14, 15] (fun k => [(8, .int .i64 (k : Int))]) (fun k W => (Below w.heap.size w W) ∧ (At W e _ 77) ∧ (k ≤ L.length) ∧ (∀ q, q < k → ¬ ((L.getD q []).length : Int) = 0) ∧ (True)) (fun k => L.length - k) (0) ⟨rfl, trivial⟩ ⟨hB, a, (Nat.zero_le _), eY, trivial⟩ ?_
 clear hB a
 rintro k p r ⟨hB, a, hk, hq, _⟩ s h
 refine Zr <| Zv (dN rfl rfl) <| cT <| cZ fun t i => ZQ rfl (fun j => ?_) fun j => ?_
 refine c9 <| i _ _ <| cZ fun u l => c7 <| Zr <| Zv (dI (v := rv) rfl ((Below.ow hB hrv)).sl rfl ef Om Om) <| Zv (dk (v := (vs.getD k undef)) rfl iT (dO.cell ((Below.ow hB hrv)).sl gj undef Om Om 0 rfl)) ?_
 have m : dO ee 1 w ((vs.getD k undef)) (L.getD k []) := hll.get k (by omega)
 refine Zw (vs.getD k undef) rfl <| cT <| Zr <| Zw (vs.getD k undef) rfl <| Zv (dB (v := (vs.getD k undef)) rfl (Below.slT hB m) dy) <| Zv (eD rfl rfl) <| cT <| ZQ rfl (fun b => ?_) fun b => ?_
 refine Zr <| Zw (.bool false) rfl <| cT <| Zt <| dE (v := .bool false) rfl ⟨hB, ?_⟩
 first | exact NL (k := k) (by omega) b | exact NR (by omega) hq
 refine c9 <| l _ _ <| cY <| Zv (dp rfl rfl Om Om) <| Zi rfl <| cT ?_
 exact h _ _ (k + 1) Za ⟨rfl, trivial⟩ ⟨hB, a, Om, (eh hq b), trivial⟩ Zo
 refine dt <| g _ _ <| Zr <| Zw (.bool true) rfl <| cT <| Zt <| dE (v := .bool true) rfl ⟨hB, ?_⟩
 first | exact NL (k := k) (by omega) b | exact NR (by omega) hq
theorem vI (n : Int) (rv : Value) (vs : List Value) (L : ML) (w : World) (hrv : dh encV 1 80 w 0 rv vs) (hLO : LO 3 0 w vs L) (hr : d6 n L = true) (hLb : L.length ≤ 1000000) :
    Fn Tryz.prog 81 #[.agg #[.int .i64 n, rv]] w fun v w' => v = .int .i64 (CJ L L.length : Int) := by
 refine dr (n := 42) Tryz.func81 rfl rfl (Nat.le_of_ble_eq_true rfl) ?_
 have hB : Below w.heap.size w w := Below.refl _ _
 have hll := hLO.ll
 have hvl := hll.len
 refine Zr <| Zy (dW (c := #[_, _]) rfl rfl fun h W3 m t b => ?_)
 have M := ZO m hB
 clear m
 replace hB := Ze hB t
 refine Zw (.int .i64 0) rfl <| cT <| Bn <| Zr <| Zy (gN (enc := eO) (encV := Value.bool) fun d W8 o p g => ?_)
 have u := ZO o hB
 clear o
 replace hB := Ze hB p
 replace b := p.at b
 replace g : dT eO Value.bool _ _ (fF []) := g
 refine Zw (.map (some d)) rfl <| cT <| Zr <| Zw (.int .i64 0) rfl <| cT <| cZ fun N x => B5 <| x _ _ <| cZ fun O y => Zr <| Zf rfl ez <| ZL rv rfl fq b rfl <| Zv (dB (v := rv) rfl ((Below.ow hB hrv)).sl ef) <| Zw (.int .i64 0) rfl ?_
 refine cT <| c7 ?_
 refine dz (σ := (Nat)) [4, 6, 8, 10, 15, 16, 17, 18, 19, 20, 21, 22, 23, 24, 25, 26, 27, 28, 29, 30, 31, 32, 33, 34, 35, 36, 37, 38, 39, 40] (fun i => [(15, .int .i64 (i : Int)), (4, .int .i64 (CJ L i : Int))]) (fun i W => (Below w.heap.size w W) ∧ (At W h _ 77) ∧ (dT eO Value.bool W d (fF (xL L i))) ∧ (i ≤ L.length) ∧ (True)) (fun i => L.length - i) (0) ⟨rfl, rfl, trivial⟩ ⟨hB, b, g, (Nat.zero_le _), trivial⟩ ?_
 clear hB b g
 rintro i P Q ⟨hB, b, hmu, hi, _⟩ R r
 refine Zr <| Zv (dN rfl rfl) <| cT <| cZ fun S z => ZQ rfl (fun A => ?_) fun A => ?_
 refine c9 <| z _ _ <| cZ fun T s => c7 <| Zr <| Zv (dI (v := rv) rfl ((Below.ow hB hrv)).sl rfl ef Om Om) <| Zv (dk (v := (vs.getD i undef)) rfl iT (dO.cell ((Below.ow hB hrv)).sl gj undef Om Om 0 rfl)) ?_
 have e : dO ee 1 w ((vs.getD i undef)) (L.getD i []) := hll.get i (by omega)
 refine Zw (vs.getD i undef) rfl <| cT <| cZ fun U B => Zr <| Zw (vs.getD i undef) rfl <| Zv (dB (v := (vs.getD i undef)) rfl (Below.slT hB e) dy) <| Zw (.int .i64 0) rfl <| cT <| c7 ?_
 refine dz (σ := (Nat)) [8, 21, 22, 23, 24, 25, 26, 27, 28] (fun j => [(21, .int .i64 (j : Int))]) (fun j W => (Below w.heap.size w W) ∧ (At W h _ 77) ∧ (dT eO Value.bool W d _) ∧ (j ≤ (L.getD i []).length) ∧ (∀ q, q < j → (ic (fF (xL L i)) ((L.getD i []).getD q 0)).getD false = false) ∧ (True)) (fun j => (L.getD i []).length - j) (0) ⟨rfl, trivial⟩ ⟨hB, b, hmu, (Nat.zero_le _), eY, trivial⟩ ?_
 clear hB b hmu
 rintro j V X ⟨hB, b, hmu, hj, hq, _⟩ Y C
 have hri := fU hr i
 have hbl := Dr L i
 refine Zr <| Zv (dN rfl rfl) <| cT <| cZ fun Z D => ZQ rfl (fun E => ?_) fun E => ?_
 refine c9 <| D _ _ <| cZ fun aa F => c7 <| Zr <| Zv (dI (v := (vs.getD i undef)) rfl (Below.slT hB e) rfl dy Om Om) <| Zv (dk (v := .int .i64 _) rfl dC (dO.cell (Below.slT hB e) eI 0 Om Om 0 rfl)) <| Zi rfl <| cT <| Zr <| Zw (.map (some d)) rfl <| Zi rfl <| Zv (f7 (enc := eO) (encV := Value.bool) (v0 := false) (k := ((L.getD i []).getD j 0)) rfl rfl nD gM (fun a => ⟨a, rfl⟩) gf pp rfl hmu) <| cT ?_
 refine ZQ rfl (fun f => ?_) fun f => ?_
 refine dt <| s _ _ ?_
 skip
 refine cY <| Zv (dp rfl rfl Om Om) <| Zi rfl <| cT ?_
 exact r _ _ (i + 1) Za ⟨rfl, QM (JD Om f), trivial⟩ ⟨hB, b, (by first | (rw [Nq (JD Om f)]; exact hmu) | (rw [NF hno]; exact hmu)), Om, trivial⟩ Zo
 refine c9 <| F _ _ <| cY <| Zv (dp rfl rfl Om Om) <| Zi rfl <| cT ?_
 exact C _ _ (j + 1) Za ⟨rfl, trivial⟩ ⟨hB, b, hmu, Om, (eh hq f), trivial⟩ Zo
 refine dt <| B _ _ ?_
 have hno := Pj (by omega) hq
 refine Zr <| Zi rfl <| Zv (dp rfl rfl Om Om) <| Zi rfl <| cT <| Zr <| Zw (vs.getD i undef) rfl <| Zv (dB (v := (vs.getD i undef)) rfl (Below.slT hB e) dy) <| Zw (.int .i64 0) rfl <| cT <| c7 ?_
 refine dz (σ := (Nat)) [10, 33, 34, 35, 36, 37, 38, 39] (fun j => [(33, .int .i64 (j : Int))]) (fun j W => (Below w.heap.size w W) ∧ (At W h _ 77) ∧ (dT eO Value.bool W d (fF (pr (xL L i) (L.getD i []) j))) ∧ (j ≤ (L.getD i []).length) ∧ (True)) (fun j => (L.getD i []).length - j) (0) ⟨rfl, trivial⟩ ⟨hB, b, hmu, (Nat.zero_le _), trivial⟩ ?_
 clear hB b hmu
 rintro j ab ac ⟨hB, b, hmu2, hj, _⟩ ad G
 refine Zr <| Zv (dN rfl rfl) <| cT <| cZ fun ae H => ZQ rfl (fun I => ?_) fun I => ?_
 refine c9 <| H _ _ <| cZ fun af J => c7 <| Zr <| Zv (dI (v := (vs.getD i undef)) rfl (Below.slT hB e) rfl dy Om Om) <| Zv (dk (v := .int .i64 _) rfl dC (dO.cell (Below.slT hB e) eI 0 Om Om 0 rfl)) <| Zi rfl <| cT <| cY <| Zw (.map (some d)) rfl <| Zi rfl ?_
 refine gW (dd := none) rfl rfl rfl (fS (enc := eO) (encV := Value.bool) (k := ((L.getD i []).getD j 0)) (v := true) rfl rfl rfl nD gM (fun a => ⟨a, rfl⟩) gf hmu2 (fun ag l K => ?_))
 replace hB := Zg hB l u
 replace b := At.grownMap b hmu2 l
 clear l hmu2
 replace hmu2 := K
 rw [jz] at hmu2
 refine cT <| J _ _ <| cY <| Zv (dp rfl rfl Om Om) <| Zi rfl <| cT ?_
 exact G _ _ (j + 1) Za ⟨rfl, trivial⟩ ⟨hB, b, (by exact hmu2), Om, trivial⟩ Zo
 refine dt <| s _ _ ?_
 obtain rfl : j = (L.getD i []).length := by omega
 refine cY <| Zv (dp rfl rfl Om Om) <| Zi rfl <| cT ?_
 exact r _ _ (i + 1) Za ⟨rfl, QS hno, trivial⟩ ⟨hB, b, (by first | (rw [Nq (JD Om f)]; exact hmu2) | (rw [NF hno]; exact hmu2)), Om, trivial⟩ Zo
 refine dt <| y _ _ <| Zr <| Zi rfl <| Zi rfl <| cT <| Zt <| dE (v := .int .i64 _) rfl ⟨hB, ?_⟩
 obtain rfl : i = L.length := by omega
 rfl
theorem oh (n : Int) (rv : Value) (vs : List Value) (L : ML) (c : Int) (w : World) (hrv : dh encV 1 80 w 0 rv vs) (hLO : LO 3 0 w vs L) (hr : d6 n L = true) (hLb : L.length ≤ 1000000) :
    Fn Tryz.prog 84 #[.agg #[.int .i64 n, rv], .int .i64 c] w fun v w' => ∃ rv', v = .agg #[.int .i64 n, rv'] ∧ dh encV 1 80 w' 0 rv' (rG undef (fun k => !decide (c ∈ L.getD k [])) vs L.length) := by
 refine dr (n := 44) Tryz.func84 rfl rfl (Nat.le_of_ble_eq_true rfl) ?_
 have hB : Below w.heap.size w w := Below.refl _ _
 have hll := hLO.ll
 have hvl := hll.len
 refine Zr <| Zy (dW (c := #[_, _]) rfl rfl fun B W3 C P a => ?_)
 have ac := ZO C hB
 clear C
 replace hB := Ze hB P
 refine Zy (dw ij rfl fun D W6 r E d => ?_)
 have Q := ZO r hB
 have R := Zn r a.lt
 clear r
 replace hB := Ze hB E
 replace a := E.at a
 refine cT <| Zr <| Zf rfl iF <| Zl rfl dC a rfl <| Zv (kz (h0 := rfl) (k0 := rfl) (c0_0 := .int .i64 _)) <| Zy (dw ij rfl fun F ad l s e => ?_)
 have G := ZO l hB
 have H := Zn l a.lt
 have t := Zn l d.lt
 clear l
 replace hB := Ze hB s
 replace a := s.at a
 replace d := s.at d
 refine Zy (dg rfl rfl dJ rfl e rfl rfl fun ae y S => ?_)
 replace hB := Zg hB y G
 replace a := At.grownNe a H y
 replace d := At.grownNe d t y
 replace e := S
 refine cT <| cZ fun af T => Zr <| Zf rfl ez <| ZL rv rfl fq a rfl <| Zv (dB (v := rv) rfl ((Below.ow hB hrv)).sl ef) <| Zw (.int .i64 0) rfl <| cT <| c7 ?_
 refine dz (σ := (Nat) × (Value)) [7, 8, 10, 17, 18, 19, 20, 21, 22, 23, 24, 25, 26, 27, 28, 29, 30, 31, 32, 33, 34, 35, 36, 37, 38, 39, 40, 41, 42] (fun (k, v0) => [(17, .int .i64 (k : Int))]) (fun sg W => match sg with | (k, v0) => (Below w.heap.size w W) ∧ (At W B _ 77) ∧ (At W D _ 77) ∧ (At W F #[.int .i64 n, v0] 77) ∧ (dh encV 1 80 W w.heap.size v0 (rG undef (fun k => !decide (c ∈ L.getD k [])) vs k)) ∧ (k ≤ L.length) ∧ (True)) (fun (k, v0) => L.length - k) ((0, .slice none 0 0)) ⟨rfl, trivial⟩ ⟨hB, a, d, e, dh.nil, (Nat.zero_le _), trivial⟩ ?_
 clear hB a d e
 rintro ⟨k, v0⟩ ag ah ⟨hB, a, d, e, ho, hk, _⟩ ai I
 refine Zr <| Zv (dN rfl rfl) <| cT <| cZ fun aj U => ZQ rfl (fun V => ?_) fun V => ?_
 refine c9 <| U _ _ <| cZ fun ak J => c7 <| Zr <| Zv (dI (v := rv) rfl ((Below.ow hB hrv)).sl rfl ef Om Om) <| Zv (dk (v := (vs.getD k undef)) rfl iT (dO.cell ((Below.ow hB hrv)).sl gj undef Om Om 0 rfl)) ?_
 have h : dO ee 1 w ((vs.getD k undef)) (L.getD k []) := hll.get k (by omega)
 refine Zw (vs.getD k undef) rfl <| cT <| Zr <| Zw (.bool false) rfl <| cT <| cZ fun al X => Zr <| Zw (vs.getD k undef) rfl <| Zv (dB (v := (vs.getD k undef)) rfl (Below.slT hB h) dy) <| Zw (.int .i64 0) rfl <| cT <| c7 ?_
 refine dz (σ := (Nat)) [8, 10, 23, 24, 25, 26, 27, 28, 29, 30, 31, 32, 33] (fun j => [(23, .int .i64 (j : Int)), (8, .bool (decide (c ∈ (L.getD k []).take j)))]) (fun j W => (Below w.heap.size w W) ∧ (At W B _ 77) ∧ (At W D _ 77) ∧ (At W F _ 77) ∧ (dh encV 1 80 W w.heap.size v0 _) ∧ (j ≤ (L.getD k []).length) ∧ (True)) (fun j => (L.getD k []).length - j) (0) ⟨rfl, rfl, trivial⟩ ⟨hB, a, d, e, ho, (Nat.zero_le _), trivial⟩ ?_
 clear hB a d e ho
 rintro j ao ap ⟨hB, a, d, e, ho, hj, _⟩ aq K
 have hri := fU hr k
 refine Zr <| Zv (dN rfl rfl) <| cT <| cZ fun ar Y => ZQ rfl (fun Z => ?_) fun Z => ?_
 refine c9 <| Y _ _ <| cZ fun au M => c7 <| Zr <| Zv (dI (v := (vs.getD k undef)) rfl (Below.slT hB h) rfl dy Om Om) <| Zv (dk (v := .int .i64 _) rfl dC (dO.cell (Below.slT hB h) eI 0 Om Om 0 rfl)) <| Zi rfl <| cT <| cY <| Zb rfl <| ZX rfl (fun z => ?_) fun z => ?_
 refine Zs <| Zs <| Zs <| Zw (.bool true) rfl <| Zw (.bool true) rfl <| cT <| M _ _ <| cY <| Zv (dp rfl rfl Om Om) <| Zi rfl <| cT ?_
 exact K _ _ (j + 1) Za ⟨rfl, R0 z, trivial⟩ ⟨hB, a, d, e, ho, Om, trivial⟩ Zo
 refine Zi rfl <| Zi rfl <| Zv (eD rfl rfl) <| Zb rfl <| Zb rfl <| cT <| M _ _ <| cY <| Zv (dp rfl rfl Om Om) <| Zi rfl <| cT ?_
 exact K _ _ (j + 1) Za ⟨rfl, RF Om z, trivial⟩ ⟨hB, a, d, e, ho, Om, trivial⟩ Zo
 refine dt <| X _ _ ?_
 obtain rfl : j = (L.getD k []).length := by omega
 refine Zr <| Zb rfl <| Zv (fG rfl) <| cT <| ZQ rfl (fun f => ?_) fun f => ?_
 have hkl := zy undef (fun k => !decide (c ∈ L.getD k [])) vs k
 refine cY <| Zf rfl ez <| ZL v0 rfl fq e rfl <| Zw (vs.getD k undef) rfl <| Zy (eU (u := (vs.getD k undef)) rfl ef jm (by rw [dO.cells (Below.slT hB h)]; rfl) Dd Dd fun A av m i N => ?_)
 have aw := ZO m hB
 have ax := dh.neB (b := A) (Below.ow hB hrv) (Nat.le_of_eq m.symm)
 have ay := dh.neB (b := A) ho (Nat.le_of_eq m.symm)
 clear m
 replace hB := Ze hB i
 replace a := i.at a
 replace d := i.at d
 replace e := i.at e
 replace ho := i.ow ho
 rw [dO.cells (Below.slT hB h)] at N
 refine Zy (eC (v := v0) (v2 := .slice (some ⟨A, 0, none⟩) 1 1) rfl rfl ef jm Dd ho (fm N rfl) (by simp only [List.all_cons, List.all_nil, dO.one (Below.slT hB h), Bool.and_true]) (by have := Below.size hB; omega) (by first | omega | (simp; omega)) (by first | omega | (simp; omega)) fun O az o g => ?_)
 replace g := dh.snoc (enc := encV) (x := (vs.getD k undef)) rfl rfl rfl rfl g
 replace hB := ZG hB o ho
 replace a := At.grownOw a ho o Dd
 replace d := At.grownOw d ho o Dd
 replace e := At.grownOw e ho o Dd
 clear ho
 refine Zf rfl ez <| Zy (eH (v := O) rfl rfl fq (dO.one g.sl) e (by simp) fun aA p aa => ?_)
 replace hB := Zg hB p G
 replace a := At.grownNe a H p
 replace d := At.grownNe d t p
 replace g := dh.grownAt g e p Dd
 replace e := aa
 replace e : At _ _ #[_, _] _ := e
 refine cT <| J _ _ <| cY <| Zv (dp rfl rfl Om Om) <| Zi rfl <| cT ?_
 exact I _ _ ((k + 1, O)) Za ⟨rfl, trivial⟩ ⟨hB, a, d, (by exact e), (by first | (rw [← F9 (by rw [List.take_length] at f; exact f)]; exact g) | (rw [← ES (by rw [List.take_length] at f; exact f)]; exact g)), Om, trivial⟩ (by show L.length - (k + 1) < L.length - k; omega)
 refine c9 <| J _ _ <| cY <| Zv (dp rfl rfl Om Om) <| Zi rfl <| cT ?_
 exact I _ _ ((k + 1, v0)) Za ⟨rfl, trivial⟩ ⟨hB, a, d, (by exact e), (by first | (rw [← F9 (by rw [List.take_length] at f; exact f)]; exact ho) | (rw [← ES (by rw [List.take_length] at f; exact f)]; exact ho)), Om, trivial⟩ (by show L.length - (k + 1) < L.length - k; omega)
 refine dt <| T _ _ <| Zr <| Zv (db rfl dJ rfl e) <| Zy (dg rfl rfl dJ rfl d rfl (by exact ik (dh.one ho)) fun aB q ab => ?_)
 replace hB := Zg hB q Q
 replace a := At.grownNe a R q
 replace e := At.grownNe e (Ne.symm t) q
 replace ho := dh.grownAt ho d q Dd
 replace d := ab
 refine cT <| Zt <| jO rfl dJ d rfl ⟨hB, ?_⟩
 obtain rfl : k = L.length := by omega
 exact ⟨_, rfl, dh.mono ho (Nat.zero_le _)⟩
theorem xO (n : Int) (rv : Value) (vs : List Value) (L : ML) (c : Int) (w : World) (hrv : dh encV 1 80 w 0 rv vs) (hLO : LO 3 0 w vs L) (hr : d6 n L = true) (hLb : L.length ≤ 1000000) :
    Fn Tryz.prog 83 #[.agg #[.int .i64 n, rv], .int .i64 c] w fun v w' => ∃ rv' vs', v = .agg #[.int .i64 n, rv'] ∧ dh encV 1 80 w' 0 rv' vs' ∧ LO 3 w.heap.size w' vs' (oK L c) := by
 refine dr (n := 43) Tryz.func83 rfl rfl (Nat.le_of_ble_eq_true rfl) ?_
 have hB : Below w.heap.size w w := Below.refl _ _
 have hll := hLO.ll
 have hvl := hll.len
 refine Zr <| Zy (dW (c := #[_, _]) rfl rfl fun Q W3 E R a => ?_)
 have ap := ZO E hB
 clear E
 replace hB := Ze hB R
 refine Zy (dw ij rfl fun S W6 t F e => ?_)
 have T := ZO t hB
 have U := Zn t a.lt
 clear t
 replace hB := Ze hB F
 replace a := F.at a
 refine cT <| Zr <| Zf rfl iF <| Zl rfl dC a rfl <| Zv (kz (h0 := rfl) (k0 := rfl) (c0_0 := .int .i64 _)) <| Zy (dw ij rfl fun V aq p y d => ?_)
 have G := ZO p hB
 have H := Zn p a.lt
 have z := Zn p e.lt
 clear p
 replace hB := Ze hB y
 replace a := y.at a
 replace e := y.at e
 refine Zy (dg rfl rfl dJ rfl d rfl rfl fun ar A X => ?_)
 replace hB := Zg hB A G
 replace a := At.grownNe a H A
 replace e := At.grownNe e z A
 replace d := X
 refine cT <| cZ fun au Y => Zr <| Zf rfl ez <| ZL rv rfl fq a rfl <| Zv (dB (v := rv) rfl ((Below.ow hB hrv)).sl ef) <| Zw (.int .i64 0) rfl <| cT <| c7 ?_
 refine dz (σ := (Nat) × (Value) × (List Value)) [7, 8, 10, 17, 18, 19, 20, 21, 22, 23, 24, 25, 26, 27, 28, 29, 30, 31, 32, 33, 34, 35, 36, 37, 38, 39, 40, 41] (fun (k, v0, vn) => [(17, .int .i64 (k : Int))]) (fun sg W => match sg with | (k, v0, vn) => (Below w.heap.size w W) ∧ (At W Q _ 77) ∧ (At W S _ 77) ∧ (At W V #[.int .i64 n, v0] 77) ∧ (dh encV 1 80 W w.heap.size v0 (vn)) ∧ (LO 3 w.heap.size W vn (oK (L.take k) c)) ∧ (k ≤ L.length) ∧ (True)) (fun (k, v0, vn) => L.length - k) ((0, .slice none 0 0, [])) ⟨rfl, trivial⟩ ⟨hB, a, e, d, dh.nil, LO.nil, (Nat.zero_le _), trivial⟩ ?_
 clear hB a e d
 rintro ⟨k, v0, vn⟩ av l ⟨hB, a, e, d, ho, hlo, hk, _⟩ aw Z
 refine Zr <| Zv (dN rfl rfl) <| cT <| cZ fun ax aa => ZQ rfl (fun ab => ?_) fun ab => ?_
 refine c9 <| aa _ _ <| cZ fun ay ac => c7 <| Zr <| Zv (dI (v := rv) rfl ((Below.ow hB hrv)).sl rfl ef Om Om) <| Zv (dk (v := (vs.getD k undef)) rfl iT (dO.cell ((Below.ow hB hrv)).sl gj undef Om Om 0 rfl)) ?_
 have ad : dO ee 1 w ((vs.getD k undef)) (L.getD k []) := hll.get k (by omega)
 refine Zw (vs.getD k undef) rfl <| cT ?_
 have ae := Below.ow hB hrv
 have af := LO.below hB hLO
 have q := Below.slT hB ad
 have B := hB
 replace hB := Below.refl l.heap.size l
 refine Zr <| Zw (.slice none 0 0) rfl <| cT <| cZ fun az ag => Zr <| Zw (vs.getD k undef) rfl <| Zv (dB (v := (vs.getD k undef)) rfl (Below.slT hB q) dy) <| Zw (.int .i64 0) rfl <| cT <| c7 ?_
 refine dz (σ := (Nat) × (Value)) [8, 10, 23, 24, 25, 26, 27, 28, 29, 30, 31, 32, 33, 34] (fun (j, v1) => [(23, .int .i64 (j : Int)), (8, v1)]) (fun sg W => match sg with | (j, v1) => (Below l.heap.size l W) ∧ (dh ee 1 3 W l.heap.size v1 (yD ((L.getD k []).take j) c)) ∧ (j ≤ (L.getD k []).length) ∧ (True)) (fun (j, v1) => (L.getD k []).length - j) ((0, .slice none 0 0)) ⟨rfl, rfl, trivial⟩ ⟨hB, dh.nil, (Nat.zero_le _), trivial⟩ ?_
 clear hB
 rintro ⟨j, v1⟩ aA aB ⟨hB, hrst, hj, _⟩ aC I
 refine Zr <| Zv (dN rfl rfl) <| cT <| cZ fun aD ah => ZQ rfl (fun ai => ?_) fun ai => ?_
 refine c9 <| ah _ _ <| cZ fun aE J => c7 ?_
 have hrl := Fp (L.getD k []) c j
 have hr4 := fU hr k
 refine Zr <| Zv (dI (v := (vs.getD k undef)) rfl (Below.slT hB q) rfl dy Om Om) <| Zv (dk (v := .int .i64 _) rfl dC (dO.cell (Below.slT hB q) eI 0 Om Om 0 rfl)) <| Zi rfl <| cT <| Zr <| Zi rfl <| Zi rfl <| Zv (gq rfl rfl) <| cT <| ZQ rfl (fun m => ?_) fun m => ?_
 refine cY <| Zw v1 rfl <| Zi rfl <| Zy (eU (u := .int .i64 _) rfl dy fH rfl Dd Dd fun K aF C M aj => ?_)
 have aG := ZO C hB
 have aH := dh.neB (b := K) hrst (Nat.le_of_eq C.symm)
 clear C
 replace hB := Ze hB M
 replace hrst := M.ow hrst
 refine Zy (eC (v := v1) (v2 := .slice (some ⟨K, 0, none⟩) 1 1) rfl rfl dy fH Dd hrst (fm aj rfl) rfl (by have := Below.size hB; omega) (by first | omega | (simp; omega)) (by first | omega | (simp; omega)) fun N aI ak r => ?_)
 replace r := dh.snoc (enc := ee) (x := _) rfl rfl rfl rfl r
 replace hB := ZG hB ak hrst
 clear hrst
 refine Zw N rfl <| cT <| J _ _ <| cY <| Zv (dp rfl rfl Om Om) <| Zi rfl <| cT ?_
 exact I _ _ ((j + 1, N)) Za ⟨rfl, rfl, trivial⟩ ⟨hB, (by first | (rw [← Gd (k := j) Om m]; exact r) | (rw [← FL (k := j) Om (Decidable.of_not_not m)]; exact r)), Om, trivial⟩ (by show (L.getD k []).length - (j + 1) < (L.getD k []).length - j; omega)
 refine c9 <| J _ _ <| cY <| Zv (dp rfl rfl Om Om) <| Zi rfl <| cT ?_
 exact I _ _ ((j + 1, v1)) Za ⟨rfl, rfl, trivial⟩ ⟨hB, (by first | (rw [← Gd (k := j) Om m]; exact hrst) | (rw [← FL (k := j) Om (Decidable.of_not_not m)]; exact hrst)), Om, trivial⟩ (by show (L.getD k []).length - (j + 1) < (L.getD k []).length - j; omega)
 refine dt <| ag _ _ ?_
 try clear ae
 try clear af
 replace a := Below.atI hB a
 replace e := Below.atI hB e
 replace d := Below.atI hB d
 replace ho := Below.ow hB ho
 replace hlo := LO.below hB hlo
 try clear q
 have hzs := Nat.le_trans (Nat.le_refl _) (Below.size B)
 replace hrst := dh.mono hrst hzs
 replace hB := Below.trans B (Below.mono hB hzs)
 clear B hzs
 obtain rfl : j = (L.getD k []).length := by omega
 rw [List.take_length] at hrst
 have hcl := FA L c k
 have hvn := hlo.len
 refine cY <| Zf rfl ez <| ZL v0 rfl fq d rfl <| Zw v1 rfl <| Zy (eU (u := v1) rfl ef jm (by rw [dO.cells hrst.sl]; rfl) Dd Dd fun D aJ s f O => ?_)
 have aK := ZO s hB
 have aL := dh.neB (b := D) (Below.ow hB hrv) (Nat.le_of_eq s.symm)
 have aM := dh.neB (b := D) ho (Nat.le_of_eq s.symm)
 clear s
 replace a := f.at a
 replace e := f.at e
 replace d := f.at d
 replace ho := f.ow ho
 replace hlo := LO.ext f hlo
 replace hB := Ze hB f
 replace hrst := f.ow hrst
 rw [dO.cells hrst.sl] at O
 refine Zy (eC (v := v0) (v2 := .slice (some ⟨D, 0, none⟩) 1 1) rfl rfl ef jm Dd ho (fm O rfl) (by first | exact E7 (dh.one hrst) | (rw [dO.cells hrst.sl]; exact E7 (dh.one hrst))) (by have := Below.size hB; omega) (by first | omega | (simp; omega)) (by first | omega | (simp; omega)) fun P aN g h => ?_)
 replace h := dh.snoc (enc := encV) (x := v1) rfl rfl rfl rfl h
 replace a := At.grownOw a ho g Dd
 replace e := At.grownOw e ho g Dd
 replace d := At.grownOw d ho g Dd
 replace hlo := LO.grownOw hlo ho g Dd
 replace hB := ZG hB g ho
 replace hrst := dh.grownOw hrst ho g Dd
 clear ho
 refine Zf rfl ez <| Zy (eH (v := P) rfl rfl fq (dO.one h.sl) d (by simp) fun aO i al => ?_)
 replace a := At.grownNe a H i
 replace e := At.grownNe e z i
 replace hlo := LO.grownAt hlo d i Dd
 replace hB := Zg hB i G
 replace hrst := dh.grownAt hrst d i Dd
 replace h := dh.grownAt h d i Dd
 replace d := al
 replace d : At _ _ #[_, _] _ := d
 refine cT <| ac _ _ <| cY <| Zv (dp rfl rfl Om Om) <| Zi rfl <| cT ?_
 exact Z _ _ ((k + 1, P, vn ++ [v1])) Za ⟨rfl, trivial⟩ ⟨hB, a, e, (by exact d), (by exact h), (by rw [← Ca Om]; exact LO.snoc hlo hrst), Om, trivial⟩ (by show L.length - (k + 1) < L.length - k; omega)
 refine dt <| Y _ _ <| Zr <| Zv (db rfl dJ rfl d) <| Zy (dg rfl rfl dJ rfl e rfl (by exact ik (dh.one ho)) fun aP o ao => ?_)
 replace hB := Zg hB o T
 replace a := At.grownNe a U o
 replace d := At.grownNe d (Ne.symm z) o
 replace ho := dh.grownAt ho e o Dd
 replace hlo := LO.grownAt hlo e o Dd
 replace e := ao
 refine cT <| Zt <| jO rfl dJ e rfl ⟨hB, ?_⟩
 exact ⟨_, _, rfl, dh.mono ho (Nat.zero_le _), by rw [← AF (k := k) Om]; exact hlo⟩
theorem nW (n : Int) (rv : Value) (vs : List Value) (L : ML) (w : World) (hrv : dh encV 1 80 w 0 rv vs) (hLO : LO 3 0 w vs L) (hr : d6 n L = true) (hLb : L.length ≤ 1000000) :
    Fn Tryz.prog 82 #[.agg #[.int .i64 n, rv]] w fun v w' => ∃ c, v = .int .i64 c ∧ ((∃ k, k < L.length ∧ 0 < (L.getD k []).length) → qB L c) := by
 refine dr (n := 61) Tryz.func82 rfl rfl (Nat.le_of_ble_eq_true rfl) ?_
 have hB : Below w.heap.size w w := Below.refl _ _
 have hll := hLO.ll
 have hvl := hll.len
 refine Zr <| Zy (dW (c := #[_, _]) rfl rfl fun q W3 y C b => ?_)
 have Z := ZO y hB
 clear y
 replace hB := Ze hB C
 refine Zw (.int .i64 0) rfl <| cT <| Zr <| Zy (gN (enc := eO) (encV := eO) fun f W8 z A o => ?_)
 have D := ZO z hB
 clear z
 replace hB := Ze hB A
 replace b := A.at b
 replace o : dT eO eO _ _ [] := o
 refine Zw (.map (some f)) rfl <| cT <| Zr <| Zi rfl <| cT <| cZ fun aa E => Zr <| Zf rfl ez <| ZL rv rfl fq b rfl <| Zv (dB (v := rv) rfl ((Below.ow hB hrv)).sl ef) <| Zw (.int .i64 0) rfl <| cT <| c7 ?_
 refine dz (σ := (Nat) × (List (Int × Int))) [6, 8, 15, 16, 17, 18, 19, 20, 21, 22, 23, 24, 25, 26, 27, 28, 29, 30] (fun (i, l) => [(15, .int .i64 (i : Int))]) (fun sg W => match sg with | (i, l) => (Below w.heap.size w W) ∧ (At W q _ 77) ∧ (dT eO eO W f l) ∧ (i ≤ L.length) ∧ (xM L i (i * 4001) l) ∧ (True)) (fun (i, l) => L.length - i) ((0, [])) ⟨rfl, trivial⟩ ⟨hB, b, o, (Nat.zero_le _), (xM.mono xM.nil Om), trivial⟩ ?_
 clear hB b o
 rintro ⟨i, l⟩ ab ac ⟨hB, b, hmc, hi, g, _⟩ ad F
 refine Zr <| Zv (dN rfl rfl) <| cT <| cZ fun ae G => ZQ rfl (fun H => ?_) fun H => ?_
 refine c9 <| G _ _ <| cZ fun af I => c7 <| Zr <| Zv (dI (v := rv) rfl ((Below.ow hB hrv)).sl rfl ef Om Om) <| Zv (dk (v := (vs.getD i undef)) rfl iT (dO.cell ((Below.ow hB hrv)).sl gj undef Om Om 0 rfl)) ?_
 have r : dO ee 1 w ((vs.getD i undef)) (L.getD i []) := hll.get i (by omega)
 refine Zw (vs.getD i undef) rfl <| cT <| Zr <| Zw (vs.getD i undef) rfl <| Zv (dB (v := (vs.getD i undef)) rfl (Below.slT hB r) dy) <| Zw (.int .i64 0) rfl <| cT <| c7 ?_
 refine dz (σ := (Nat) × (List (Int × Int))) [8, 21, 22, 23, 24, 25, 26, 27, 28, 29] (fun (j, l2) => [(21, .int .i64 (j : Int))]) (fun sg W => match sg with | (j, l2) => (Below w.heap.size w W) ∧ (At W q _ 77) ∧ (dT eO eO W f l2) ∧ (j ≤ (L.getD i []).length) ∧ (xM L i (i * 4001 + j) l2) ∧ (0 < j → l2 ≠ []) ∧ (True)) (fun (j, l2) => (L.getD i []).length - j) ((0, l)) ⟨rfl, trivial⟩ ⟨hB, b, hmc, (Nat.zero_le _), (xM.mono g Om), (fun h => absurd h (Nat.lt_irrefl _)), trivial⟩ ?_
 clear hB b hmc
 rintro ⟨j, l2⟩ ag ah ⟨hB, b, hmc2, hj, hbu, hne, _⟩ ai J
 have hri := fU hr i
 refine Zr <| Zv (dN rfl rfl) <| cT <| cZ fun aj K => ZQ rfl (fun M => ?_) fun M => ?_
 refine c9 <| K _ _ <| cZ fun ak N => c7 <| Zr <| Zv (dI (v := (vs.getD i undef)) rfl (Below.slT hB r) rfl dy Om Om) <| Zv (dk (v := .int .i64 _) rfl dC (dO.cell (Below.slT hB r) eI 0 Om Om 0 rfl)) <| Zi rfl <| cT ?_
 have hgl := hbu.get ((L.getD i []).getD j 0)
 refine cY <| Zw (.map (some f)) rfl <| Zi rfl <| Zv (f7 (enc := eO) (encV := eO) (v0 := 0) (k := ((L.getD i []).getD j 0)) rfl rfl pX gM (fun a => ⟨a, rfl⟩) gf uh rfl hmc2) <| Zv (dp rfl rfl Om Om) ?_
 refine gW (dd := none) rfl rfl rfl (fS (enc := eO) (encV := eO) (k := ((L.getD i []).getD j 0)) (v := _) rfl rfl rfl pX gM (fun a => ⟨a, rfl⟩) gf hmc2 (fun al s O => ?_))
 replace hB := Zg hB s D
 replace b := At.grownMap b hmc2 s
 clear s hmc2
 replace hmc2 := O
 refine cT <| N _ _ <| cY <| Zv (dp rfl rfl Om Om) <| Zi rfl <| cT ?_
 exact J _ _ ((j + 1, ie l2 ((L.getD i []).getD j 0) ((ic l2 ((L.getD i []).getD j 0)).getD 0 + 1))) Za ⟨rfl, trivial⟩ ⟨hB, b, (by exact hmc2), Om, (xM.mono (xM.put hbu Om Om) Om), (fun _ => F8), trivial⟩ (by show (L.getD i []).length - (j + 1) < (L.getD i []).length - j; omega)
 refine dt <| I _ _ <| cY <| Zv (dp rfl rfl Om Om) <| Zi rfl <| cT ?_
 exact F _ _ ((i + 1, l2)) Za ⟨rfl, trivial⟩ ⟨hB, b, (by exact hmc2), Om, (hbu.next (fun h => hne Om) Om), trivial⟩ (by show L.length - (i + 1) < L.length - i; omega)
 refine dt <| E _ _ <| cZ fun ao P => Zr <| Zw (.map (some f)) rfl <| Zy (Ad rfl pX hmc fun Q ap B t d => ?_)
 have R := ZO B hB
 clear B
 replace hB := Ze hB t
 replace b := t.at b
 replace hmc := t.mapT hmc
 refine cT <| c7 ?_
 refine dz (σ := (List Int) × (Int)) [4, 9, 10, 33, 34, 35, 36, 37, 38, 39, 40, 41, 42, 43, 44, 45, 46, 47, 48, 49, 50, 51, 52, 53, 54, 55, 56, 57, 58, 59] (fun (seen, bb) => [(4, .int .i64 bb)]) (fun sg W => match sg with | (seen, bb) => (Below w.heap.size w W) ∧ (At W q _ 77) ∧ (dT eO eO W f _) ∧ (eL eO eO W Q f l seen) ∧ (Ri L seen bb) ∧ (True)) (fun (seen, bb) => l.length - seen.length) (([], -1)) ⟨rfl, trivial⟩ ⟨hB, b, hmc, d, (.inl ⟨rfl, rfl⟩), trivial⟩ ?_
 clear hB b hmc d
 rintro ⟨seen, bb⟩ aq ar ⟨hB, b, hmc, d, hbe, _⟩ au m
 refine Zr ?_
 refine gW (dd := some 33) rfl rfl rfl (DN rfl d (fun S => ?_) (fun e av aw p ax u T => ?_))
 refine Zv (vP rfl) <| cT <| cZ fun ay az => d4 rfl <| dt <| P _ _ ?_
 obtain rfl : i = L.length := by omega
 refine Zr <| Zi rfl <| Zi rfl <| cT <| Zt <| dE (v := .int .i64 _) rfl ⟨hB, ?_⟩
 exact ⟨_, rfl, Qn hbe g rfl S⟩
 replace hB := Zg hB u R
 replace b := At.grownIter b d u
 replace hmc := dT.grownIter hmc d u
 replace d := T
 refine Zv (m7 rfl) <| cT <| cZ fun aA U => dA rfl <| c9 <| U _ _ <| c7 <| Zr <| Zv (Av rfl d p) <| Zv (dK rfl) <| Zv (dM rfl) <| Zi rfl <| Zi rfl <| cT ?_
 refine Zr <| Zi rfl <| Zv (dN rfl rfl) <| ZX rfl (fun x => ?_) fun x => ?_
 refine Zs <| Zs <| Zs <| Zs <| Zs <| Zw (.bool true) rfl <| Zw (.bool true) rfl <| Zs <| Zs <| Zs <| Zs <| Zs <| Zs <| Zs ?_
 refine Zs <| Zs <| Zs <| Zw (.bool true) rfl <| cT <| dA rfl <| cY <| Zi rfl <| Zi rfl <| cT ?_
 exact m _ _ ((e :: seen, e)) Za ⟨rfl, trivial⟩ ⟨hB, b, hmc, d, (D3 hr g p), trivial⟩ (by have hle := eL.len_le d; show l.length - (e :: seen).length < l.length - seen.length; simp only [List.length_cons] at hle ⊢; omega)
 refine Zi rfl <| Zw (.map (some f)) rfl <| Zi rfl <| Zv (f7 (enc := eO) (encV := eO) (v0 := 0) (k := _) rfl rfl pX gM (fun a => ⟨a, rfl⟩) gf uh rfl hmc) <| Zv (jp rfl rfl) <| Zb rfl <| ZX rfl (fun V => ?_) fun V => ?_
 refine Zs <| Zs <| Zs <| Zs <| Zs <| Zs <| Zs <| Zs <| Zs <| Zs <| Zw (.bool true) rfl <| cT <| dA rfl <| cY ?_
 refine Zi rfl <| Zi rfl <| cT ?_
 exact m _ _ ((e :: seen, e)) Za ⟨rfl, trivial⟩ ⟨hB, b, hmc, d, (D3 hr g p), trivial⟩ (by have hle := eL.len_le d; show l.length - (e :: seen).length < l.length - seen.length; simp only [List.length_cons] at hle ⊢; omega)
 refine Zi rfl <| Zw (.map (some f)) rfl <| Zi rfl <| Zv (f7 (enc := eO) (encV := eO) (v0 := 0) (k := _) rfl rfl pX gM (fun a => ⟨a, rfl⟩) gf uh rfl hmc) <| Zv (eD rfl rfl) <| ZX rfl (fun X => ?_) fun X => ?_
 refine Zi rfl <| Zi rfl <| Zv (dN rfl rfl) <| Zb rfl <| Zb rfl <| cT <| ZQ rfl (fun Y => ?_) fun Y => ?_
 refine cY <| Zi rfl <| Zi rfl <| cT ?_
 exact m _ _ ((e :: seen, e)) Za ⟨rfl, trivial⟩ ⟨hB, b, hmc, d, (D3 hr g p), trivial⟩ (by have hle := eL.len_le d; show l.length - (e :: seen).length < l.length - seen.length; simp only [List.length_cons] at hle ⊢; omega)
 refine c9 ?_
 exact m _ _ ((e :: seen, bb)) Za ⟨rfl, trivial⟩ ⟨hB, b, hmc, d, (IF hbe x), trivial⟩ (by have hle := eL.len_le d; show l.length - (e :: seen).length < l.length - seen.length; simp only [List.length_cons] at hle ⊢; omega)
 refine Zs <| Zs <| Zs <| Zw (.bool false) rfl <| Zw (.bool false) rfl <| cT <| d4 rfl <| c9 ?_
 exact m _ _ ((e :: seen, bb)) Za ⟨rfl, trivial⟩ ⟨hB, b, hmc, d, (IF hbe x), trivial⟩ (by have hle := eL.len_le d; show l.length - (e :: seen).length < l.length - seen.length; simp only [List.length_cons] at hle ⊢; omega)
theorem pk (xl : Value) (l : List Int) (n : Int) (w : World) (hl : dO ee 1 w xl l) (hlb : l.length ≤ 1000000) (hn : 0 ≤ n ∧ n ≤ 4000) :
    Fn Tryz.prog 85 #[xl, .int .i64 n] w fun v w' => dh ee 1 3 w' w.heap.size v (kE l n.toNat) := by
 refine dr (n := 33) Tryz.func85 rfl rfl (Nat.le_of_ble_eq_true rfl) ?_
 have hB : Below w.heap.size w w := Below.refl _ _
 refine Zr <| Zw (.slice none 0 0) rfl <| cT <| Zr <| Zy (gN (enc := eO) (encV := Value.bool) fun c W5 i s e => ?_)
 have t := ZO i hB
 clear i
 replace hB := Ze hB s
 replace e : dT eO Value.bool _ _ (fF []) := e
 refine Zw (.map (some c)) rfl <| cT <| cZ fun K8 y => Zr <| Zw xl rfl <| Zv (dB (v := xl) rfl (Below.slT hB hl) dy) <| Zw (.int .i64 0) rfl <| cT <| c7 ?_
 refine dz (σ := (Nat)) [7, 13, 14, 15, 16, 17, 18, 19] (fun k => [(13, .int .i64 (k : Int))]) (fun k W => (Below w.heap.size w W) ∧ (dT eO Value.bool W c (fF (pr [] l k))) ∧ (k ≤ l.length) ∧ (True)) (fun k => l.length - k) (0) ⟨rfl, trivial⟩ ⟨hB, e, (Nat.zero_le _), trivial⟩ ?_
 clear hB e
 rintro k I J ⟨hB, hmk, hk, _⟩ K z
 refine Zr <| Zv (dN rfl rfl) <| cT <| cZ fun L A => ZQ rfl (fun B => ?_) fun B => ?_
 refine c9 <| A _ _ <| cZ fun M C => c7 <| Zr <| Zv (dI (v := xl) rfl (Below.slT hB hl) rfl dy Om Om) <| Zv (dk (v := .int .i64 _) rfl dC (dO.cell (Below.slT hB hl) eI 0 Om Om 0 rfl)) <| Zi rfl <| cT <| cY <| Zw (.map (some c)) rfl <| Zi rfl ?_
 refine gW (dd := none) rfl rfl rfl (fS (enc := eO) (encV := Value.bool) (k := (l.getD k 0)) (v := true) rfl rfl rfl nD gM (fun a => ⟨a, rfl⟩) gf hmk (fun N j D => ?_))
 replace hB := Zg hB j t
 clear j hmk
 replace hmk := D
 rw [jz] at hmk
 refine cT <| C _ _ <| cY <| Zv (dp rfl rfl Om Om) <| Zi rfl <| cT ?_
 exact z _ _ (k + 1) Za ⟨rfl, trivial⟩ ⟨hB, (by exact hmk), Om, trivial⟩ Zo
 refine dt <| y _ _ <| Zr <| Zw (.slice none 0 0) rfl <| cT <| cZ fun O E => ?_
 obtain rfl : k = l.length := by omega
 refine Zr <| Zi rfl <| Zw (.int .i64 0) rfl <| cT <| c7 ?_
 refine dz (σ := (Nat) × (Value)) [8, 9, 21, 22, 23, 24, 25, 26, 27, 28, 29, 30, 31] (fun (cc, v0) => [(21, .int .i64 (cc : Int)), (8, v0)]) (fun sg W => match sg with | (cc, v0) => (Below w.heap.size w W) ∧ (dT eO Value.bool W c _) ∧ (dh ee 1 3 W w.heap.size v0 (kE (pr [] l l.length) cc)) ∧ ((cc : Int) ≤ n) ∧ (True)) (fun (cc, v0) => n.toNat - cc) ((0, .slice none 0 0)) ⟨rfl, rfl, trivial⟩ ⟨hB, hmk, dh.nil, Om, trivial⟩ ?_
 clear hB hmk
 rintro ⟨cc, v0⟩ P Q ⟨hB, hmk, ho, hcc, _⟩ R m
 refine Zr <| Zv (dN rfl rfl) <| cT <| cZ fun S F => ZQ rfl (fun G => ?_) fun G => ?_
 refine c9 <| F _ _ <| cZ fun T o => c7 <| Zr <| Zi rfl <| Zi rfl <| cT <| Zr <| Zw (.map (some c)) rfl <| Zi rfl <| Zv (f7 (enc := eO) (encV := Value.bool) (v0 := false) (k := _) rfl rfl nD gM (fun a => ⟨a, rfl⟩) gf pp rfl hmk) <| cT <| ZQ rfl (fun d => ?_) fun d => ?_
 refine cY <| Zw v0 rfl <| Zi rfl <| Zy (eU (u := .int .i64 _) rfl dy fH rfl Dd Dd fun p U g h H => ?_)
 have V := ZO g hB
 have X := dh.neB (b := p) ho (Nat.le_of_eq g.symm)
 clear g
 replace hB := Ze hB h
 replace hmk := h.mapT hmk
 replace ho := h.ow ho
 refine Zy (eC (v := v0) (v2 := .slice (some ⟨p, 0, none⟩) 1 1) rfl rfl dy fH Dd ho (fm H rfl) rfl (by have := Below.size hB; omega) (by have := lN (pr [] l l.length) cc; omega) (by have := lN (pr [] l l.length) cc; omega) fun q Y r f => ?_)
 replace f := dh.snoc (enc := ee) (x := _) rfl rfl rfl rfl f
 replace hB := ZG hB r ho
 replace hmk := dT.grownOw hmk ho r
 clear ho
 refine Zw q rfl <| cT <| o _ _ <| cY <| Zv (dp rfl rfl Om Om) <| Zi rfl <| cT ?_
 exact m _ _ ((cc + 1, q)) Za ⟨rfl, rfl, trivial⟩ ⟨hB, hmk, (by first | (rw [jg, if_pos (nI d)]; exact f) | (rw [jg, if_neg (lQ d)]; exact f)), Om, trivial⟩ (by show n.toNat - (cc + 1) < n.toNat - cc; omega)
 refine c9 <| o _ _ <| cY <| Zv (dp rfl rfl Om Om) <| Zi rfl <| cT ?_
 exact m _ _ ((cc + 1, v0)) Za ⟨rfl, rfl, trivial⟩ ⟨hB, hmk, (by first | (rw [jg, if_pos (nI d)]; exact ho) | (rw [jg, if_neg (lQ d)]; exact ho)), Om, trivial⟩ (by show n.toNat - (cc + 1) < n.toNat - cc; omega)
 refine dt <| E _ _ ?_
 obtain rfl : cc = n.toNat := by omega
 rw [MT] at ho
 refine Zr <| Zw v0 rfl <| Zw v0 rfl <| cT <| Zt <| dE (v := v0) rfl ⟨hB, ?_⟩
 exact ho
end
section
open Go Go.RowKit
theorem H7 : dD Tryz.prog 80 = true := by kernel_rfl
theorem KS : dD Tryz.prog 82 = true := by kernel_rfl
theorem J1 : dD Tryz.prog 84 = true := by kernel_rfl
theorem JK : dD Tryz.prog 85 = true := by kernel_rfl
theorem uu (n : Int) (rv : Value) (vs : List Value) (L : ML) (w : World) (hrv : dh encV 1 80 w 0 rv vs) (hLO : LO 3 0 w vs L) (hr : d6 n L = true) (hLb : L.length ≤ 1000000) (hfu : jk L L.length = true) :
    Fn Tryz.prog 79 #[.agg #[.int .i64 n, rv]] w fun v w' => ∃ tv T, v = .tuple #[tv, .int .i64 0] ∧ dh ee 1 3 w' w.heap.size tv T ∧ mX L T ∧ T.length ≤ 4000 := by
 refine dr (n := 33) Tryz.func79 rfl rfl (Nat.le_of_ble_eq_true rfl) ?_
 have hB : Below w.heap.size w w := Below.refl _ _
 have hll := hLO.ll
 have hvl := hll.len
 refine Zr <| Zy (dW (c := #[_, _]) rfl rfl fun O W3 B P d => ?_)
 have ak := ZO B hB
 clear B
 replace hB := Ze hB P
 refine Zw (.slice none 0 0) rfl <| Zw (.int .i64 0) rfl <| cT <| cZ fun K6 Q => c7 <| Zr <| Zv (db rfl dJ rfl d) <| ZC (vs := [.agg #[_, _]]) xx (jQ n _ _ L _ ((Below.ow hB hrv)).sl (LO.mono (LO.below hB hLO) (Nat.zero_le _)).ll hLb (fun i => Nat.le_trans (fU hr i) Dd)) rfl fun al ao C R => ?_
 replace hB := Ze hB C
 replace d := C.at d
 obtain rfl := R
 refine Zv (fG rfl) <| Zb rfl <| cT <| ZQ rfl (fun D => ?_) fun D => ?_
 exact absurd (iI D) (by rw [hr]; decide)
 refine Zr <| Zv (db rfl dJ rfl d) <| ZC (vs := [.agg #[_, _]]) H7 (nC n _ _ _ _ (dh.mono (Below.ow hB hrv) (Nat.zero_le _)) (LO.mono (LO.below hB hLO) (Nat.zero_le _)) hLb) rfl fun ap aq E S => ?_
 replace hB := Ze hB E
 replace d := E.at d
 obtain rfl := S
 refine Zv (fG rfl) <| Zb rfl <| cT <| ZQ rfl (fun F => ?_) fun F => ?_
 exact absurd (iI F) (by rw [hfu]; decide)
 refine c9 <| Q _ _ <| Zr <| Zw (.slice none 0 0) rfl <| cT <| Zr <| Zv (db rfl dJ rfl d) <| Zy (dw ij rfl fun U ar z G e => ?_)
 have H := ZO z hB
 have I := Zn z d.lt
 clear z
 replace hB := Ze hB G
 replace d := G.at d
 refine Zy (dg rfl rfl dJ rfl e rfl (by exact ik (dh.one hrv)) fun au J V => ?_)
 replace hB := Zg hB J H
 replace d := At.grownNe d I J
 replace e := V
 refine cT <| cZ fun av X => c7 ?_
 refine dz (σ := (Value) × (List Value) × (ML) × (Value) × (List Int)) [4, 6, 16, 17, 18, 19, 20, 21, 22, 23, 24, 25, 26, 27, 28] (fun (rv1, l, L1, v0, out) => [(4, v0)]) (fun sg W => match sg with | (rv1, l, L1, v0, out) => (Below w.heap.size w W) ∧ (At W O _ 77) ∧ (At W U #[.int .i64 n, rv1] 77) ∧ (dh encV 1 80 W 0 rv1 l) ∧ (dh ee 1 3 W w.heap.size v0 (out)) ∧ (LO 3 0 w l L1) ∧ (IM n L L1 out) ∧ (L1.length ≤ 1000000) ∧ (True)) (fun (rv1, l, L1, v0, out) => L1.length) ((rv, vs, L, .slice none 0 0, [])) ⟨rfl, trivial⟩ ⟨hB, d, e, (Below.ow hB hrv), dh.nil, hLO, (IM.start hr hfu), hLb, trivial⟩ ?_
 clear hB d e
 rintro ⟨rv1, l, L1, v0, out⟩ aw ax ⟨hB, d, e, hrw1, ho, hlo1, hgr, hl0, _⟩ ay Y
 refine cZ fun az Z => Zr <| Zf rfl ez <| ZL rv1 rfl fq e rfl <| Zv (dB (v := rv1) rfl hrw1.sl ef) <| Zv (jp rfl rfl) <| cT <| ZQ rfl (fun aa => ?_) fun aa => ?_
 refine c9 <| Z _ _ <| c7 ?_
 have hl1 : L1.length ≤ 1000000 := by have := hgr.len; omega
 refine Zr <| Zv (db rfl dJ rfl e) <| ZC (vs := [.agg #[_, _]]) KS (nW n _ _ L1 _ (dh.mono hrw1 (Nat.le_refl _)) (LO.below hB hlo1) hgr.r hl1) rfl fun aA aB o ab => ?_
 replace hB := Ze hB o
 replace d := o.at d
 replace e := o.at e
 replace hrw1 := o.ow hrw1
 replace ho := o.ow ho
 obtain ⟨c8_1, rfl, ac⟩ := ab
 refine Zw (.int .i64 c8_1) rfl <| cT ?_
 have hcin := hgr.inl (by have := hlo1.len; omega) ac
 have hl1 : L1.length ≤ 1000000 := by have := hgr.len; omega
 refine gF (fun a b => a.grownBy b v0.ownBlock) iv (fun ad p => ?_)
 replace hB := Ze hB p
 replace d := p.at d
 replace e := p.at e
 replace hrw1 := p.ow hrw1
 replace ho := p.ow ho
 have ae := ho
 have hS := World.grownBy.refl ad v0.ownBlock
 refine Tw 0 v0 rfl rfl hS <| Tw 1 (.int .i64 c8_1) rfl rfl hS <| Tk 4 rfl (fun _ hq => db rfl dJ rfl (At.grownOw e ae hq Dd)) hS <| Tw 5 (.int .i64 c8_1) rfl rfl hS <| To 2 rfl (eU (u := .int .i64 c8_1) rfl dy fH rfl Dd Dd fun K aC A f af => ⟨.inl (dG hS (d9.grown f v0.ownBlock)), ?_⟩)
 have aD := ZO A hB
 have aE := dh.neB (b := K) ho (Nat.le_of_eq A.symm)
 clear A
 replace hB := Ze hB f
 replace d := f.at d
 replace e := f.at e
 replace hrw1 := f.ow hrw1
 replace ho := f.ow ho
 replace hS := dG hS (d9.grown f v0.ownBlock)
 refine To 3 rfl (eC (v := v0) (v2 := .slice (some ⟨K, 0, none⟩) 1 1) rfl rfl dy fH Dd ho (fm af rfl) rfl (by have := Below.size hB; omega) (by have := hgr.len; omega) (by have := hgr.len; omega) fun M aF m g => ⟨.inl (dG hS m), ?_⟩)
 replace hS := dG hS m
 replace g := dh.snoc (enc := ee) (x := c8_1) rfl rfl rfl rfl g
 replace hB := ZG hB m ho
 replace d := At.grownOw d ho m Dd
 replace e := At.grownOw e ho m Dd
 replace hrw1 := dh.grownOw hrw1 ho m Dd
 clear ho
 refine To 6 rfl (TC (vs := [.agg #[_, _], .int .i64 c8_1]) J1 (oh n _ _ L1 c8_1 _ (dh.mono hrw1 (Nat.le_refl _)) (LO.below hB hlo1) hgr.r hl1) rfl fun aG aH j ag => ⟨.inl (dG hS (d9.grown j v0.ownBlock)), ?_⟩)
 replace hB := Ze hB j
 replace d := j.at d
 replace e := j.at e
 replace hrw1 := j.ow hrw1
 replace g := j.ow g
 replace hS := dG hS (d9.grown j v0.ownBlock)
 obtain ⟨rv9_6, rfl, hk9_6⟩ := ag
 refine Tw 7 M rfl rfl hS <| To 8 rfl (dg rfl rfl dJ rfl e rfl (by exact ik (dh.one hk9_6)) fun aI s ah => ⟨.inr (by kernel_rfl), ?_⟩)
 replace hB := Zg hB s H
 replace d := At.grownNe d I s
 replace hrw1 := dh.grownAt hrw1 e s Dd
 replace g := dh.grownAt g e s Dd
 replace hk9_6 := dh.grownAt hk9_6 e s Dd
 replace e := ah
 refine Td ?_
 exact Y _ _ ((rv9_6, rG undef (fun k => !decide (c8_1 ∈ L1.getD k [])) l L1.length, q6 L1 c8_1, M, out ++ [c8_1])) Za ⟨rfl, trivial⟩ ⟨hB, d, (by exact e), hk9_6, (by exact g), (by have h := LO.kp hlo1 (fun k => !decide (c8_1 ∈ L1.getD k [])) L1.length (Nat.le_refl _); rw [HZ] at h; exact h), (hgr.next hcin), (by have := (hgr.next hcin).len; omega), trivial⟩ (by exact yF hcin)
 refine dt <| X _ _ ?_
 have hTl := lN out n.toNat
 have hn4 := (fv.1 hr).2.1
 refine Zr <| Zw v0 rfl <| Zf rfl iF <| Zl rfl dC d rfl <| ZC JK (pk _ out n _ ho.sl (by have := hgr.len; omega) (by have q := fv.1 hr; exact ⟨q.1, q.2.1⟩)) rfl fun N aJ t y => ?_
 have ai := dh.lt2 ho
 have aj := (Below.size hB)
 replace hB := Ze hB t
 replace d := t.at d
 replace e := t.at e
 replace hrw1 := t.ow hrw1
 replace ho := t.ow ho
 have aK := eW.new ai y
 replace y := dh.mono y aj
 refine Zw N rfl <| Zw (.int .i64 0) rfl <| cT <| Zt <| d8 (v := N) rfl (v1 := .int .i64 0) rfl ⟨hB, ?_⟩
 exact ⟨_, _, rfl, y, hgr.fin hr (by have := hlo1.len; omega), by omega⟩
end
section
open Go Go.RowKit
def NW (ops : Array Oper) (Ls : List (Array Bool)) : List (Array Bool) := (Ls.flatMap fun L => (Region.ready .any ops L).map fun i => L.setIfInBounds i true).eraseDups
def Mz (ops : Array Oper) (A : List Nat) (L1 : Array Bool) : Nat → List (Array Bool) → Bool
 | 0, Ls => Ls.all fun L => L == L1
 | m + 1, Ls => (Ls.all fun L => !(Region.ready .any ops L).isEmpty && (Region.ready .any ops L).all fun i => A.contains i) && Mz ops A L1 m (NW ops Ls)
section
variable {P : Program} {n : Nat} {ops : Array Oper} {Q : (Nat → Value) → World → Prop} {S : World → Prop} {f0 : Nat → Value}
theorem Jp {T : List Nat} {g : Nat → Value} {d : Nat} {v : Value} (hd : pq T d = true) : updo (mask T f0 g) (some d) v = mask T f0 (upd g d v) := by
 funext t
 show cond (Nat.beq t d) v (mask T f0 g t) = cond (pq T t) (cond (Nat.beq t d) v (g t)) (f0 t)
 cases e : Nat.beq t d with
 | true =>
  obtain rfl := Nat.eq_of_beq_eq_true e
  rw [hd]; rfl
 | false => rfl
theorem GS {T : List Nat} : mask T f0 f0 = f0 := by
 funext t
 unfold mask
 cases pq T t <;> rfl
theorem Hs {f f' : Nat → Value} {w : World} {k : Nat} {L : Array Bool} (e : f = f') (h : WT P n ops Q S k L f' w) : WT P n ops Q S k L f w := by rw [e]; exact h
theorem Hc {T : List Nat} {g : Nat → Value} (l : List (Nat × Value)) (h : pW (mask T f0 g) l) : mask T f0 g = updL l (mask T f0 (mask T f0 g)) := vw (fJ.mask T f0 g) l h
end
end
section
open Go Go.RowKit
structure BX where
 n : Int
 rv : Value
 tv : Value
def zP : BX := ⟨0, undef, undef⟩
def El (x : BX) : List Value := [.int .i64 x.n, x.rv, x.tv]
theorem sv : ∀ a, (El a).length = 3 := fun _ => rfl
abbrev Et := ML × List Int
def lX : Et := ([], [])
structure gR (TV TI : TypeId) (W : World) (xs : List BX) (st : List Et) : Prop where
 len : xs.length = st.length
 mx : ∀ k, k < st.length → ∃ vs, dh encV 1 TV W 0 (xs.getD k zP).rv vs ∧ LO TI 0 W vs (st.getD k lX).1
 ch : ∀ k, k < st.length → dh ee 1 TI W 0 (xs.getD k zP).tv (st.getD k lX).2
section
variable {TV TI T' : TypeId} {W W' : World} {xs : List BX} {st : List Et} {N' : Nat}
theorem gR.map (h : gR TV TI W xs st) (f : ∀ (α : Type) (enc : α → List Value) (T : TypeId) (v : Value) (l : List α), T = TV ∨ T = TI → dh enc 1 T W 0 v l → dh enc 1 T W' 0 v l) : gR TV TI W' xs st :=
 ⟨h.len, fun k hk => by
  obtain ⟨vs, h1, h2⟩ := h.mx k hk
  exact ⟨vs, f _ _ _ _ _ (.inl rfl) h1, h2.len, fun i hi => f _ _ _ _ _ (.inr rfl) (h2.get i hi)⟩, fun k hk => f _ _ _ _ _ (.inr rfl) (h.ch k hk)⟩
theorem gR.ext (hE : d9 W W') (h : gR TV TI W xs st) : gR TV TI W' xs st := h.map fun _ _ _ _ _ _ k => hE.ow k
theorem gR.below {w : World} (hB : Below w.heap.size w W) (h : gR TV TI w xs st) : gR TV TI W xs st := h.map fun _ _ _ _ _ _ k => Below.ow hB k
theorem gR.grownAt {b : Nat} {c : Array Value} (h : gR TV TI W xs st) (hm : At W b c T') (hG : W.grownBy W' (some b)) (h1 : T' ≠ TV) (h2 : T' ≠ TI) : gR TV TI W' xs st :=
 h.map fun _ _ _ _ _ hT k => k.grownAt hm hG (by rcases hT with rfl | rfl <;> assumption)
theorem gR.grownMap {α β : Type} {enc : α → Value} {ev : β → Value} {b : Nat} {l : List (α × β)} (h : gR TV TI W xs st) (hm : dT enc ev W b l) (hG : W.grownBy W' (some b)) : gR TV TI W' xs st :=
 h.map fun _ _ _ _ _ _ k => k.grownMap hm hG
theorem gR.grownOw {α : Type} {enc : α → List Value} {sz : Nat} {v : Value} {l : List α} (h : gR TV TI W xs st) (hv : dh enc sz T' W N' v l) (hG : W.grownBy W' v.ownBlock) (h1 : T' ≠ TV) (h2 : T' ≠ TI) : gR TV TI W' xs st :=
 h.map fun _ _ _ _ _ hT k => k.grownOw hv hG (by rcases hT with rfl | rfl; exact h1.symm; exact h2.symm)
theorem oV {α : Type} {a b : List α} {d : α} {i : Nat} (h : i < a.length) : (a ++ b).getD i d = a.getD i d := by
 rw [List.getD_eq_getElem?_getD, List.getD_eq_getElem?_getD, List.getElem?_append_left h]
theorem mi {α : Type} {a : List α} {x d : α} : (a ++ [x]).getD a.length d = x := by
 rw [List.getD_eq_getElem?_getD, List.getElem?_append_right (Nat.le_refl _), Nat.sub_self]; rfl
theorem iZ {α : Type} {l : List α} {d : α} {i k : Nat} (h : i < k) : (l.take k).getD i d = l.getD i d := by
 rw [List.getD_eq_getElem?_getD, List.getD_eq_getElem?_getD, List.getElem?_take, if_pos h]
theorem gR.take (h : gR TV TI W xs st) (k : Nat) : gR TV TI W (xs.take k) (st.take k) := by
 refine ⟨by rw [List.length_take, List.length_take, h.len], fun i hi => ?_, fun i hi => ?_⟩
 ·rw [List.length_take] at hi
  rw [iZ (by omega), iZ (by omega)]
  exact h.mx i (by omega)
 ·rw [List.length_take] at hi
  rw [iZ (by omega), iZ (by omega)]
  exact h.ch i (by omega)
theorem gR.snoc {x : BX} {y : Et} {vs : List Value} (h : gR TV TI W xs st) (h1 : dh encV 1 TV W 0 x.rv vs) (h2 : LO TI 0 W vs y.1) (h3 : dh ee 1 TI W 0 x.tv y.2) : gR TV TI W (xs ++ [x]) (st ++ [y]) := by
 refine ⟨by simp [h.len], fun i hi => ?_, fun i hi => ?_⟩
 ·rw [List.length_append, List.length_singleton] at hi
  by_cases e : i < st.length
  ·rw [oV (h.len ▸ e), oV e]; exact h.mx i e
  ·obtain rfl : i = st.length := by omega
   rw [mi, ← h.len, mi]; exact ⟨vs, h1, h2⟩
 ·rw [List.length_append, List.length_singleton] at hi
  by_cases e : i < st.length
  ·rw [oV (h.len ▸ e), oV e]; exact h.ch i e
  ·obtain rfl : i = st.length := by omega
   rw [mi, ← h.len, mi]; exact h3
theorem gR.one {x : BX} {y : Et} {vs : List Value} (h1 : dh encV 1 TV W 0 x.rv vs) (h2 : LO TI 0 W vs y.1) (h3 : dh ee 1 TI W 0 x.tv y.2) : gR TV TI W [x] [y] :=
 gR.snoc (xs := []) (st := []) ⟨rfl, fun k hk => (by cases hk), fun k hk => (by cases hk)⟩ h1 h2 h3
end
structure Hb (xs : List BX) (st : List Et) : Prop where
 r : ∀ k, k < st.length → d6 (xs.getD k zP).n (st.getD k lX).1 = true
 l : ∀ k, k < st.length → (st.getD k lX).1.length ≤ 1000000
 c : ∀ k, k < st.length → k + cnt (st.getD k lX).1 ≤ 4000
 t : ∀ k, k < st.length → (st.getD k lX).2.length + 4001 * cnt (st.getD k lX).1 ≤ 16004000
section
variable {xs : List BX} {st : List Et}
theorem Hb.len (h : Hb xs st) : st.length ≤ 4001 := by
 cases e : st.length with
 | zero => omega
 | succ k => have := h.c k (by omega); omega
theorem Hb.take (h : Hb xs st) (hl : xs.length = st.length) (k : Nat) : Hb (xs.take k) (st.take k) := by
 refine ⟨fun i hi => ?_, fun i hi => ?_, fun i hi => ?_, fun i hi => ?_⟩ <;> rw [List.length_take] at hi
 ·rw [iZ (by omega), iZ (by omega)]; exact h.r i (by omega)
 ·rw [iZ (by omega)]; exact h.l i (by omega)
 ·rw [iZ (by omega)]; exact h.c i (by omega)
 ·rw [iZ (by omega)]; exact h.t i (by omega)
theorem Hb.snoc (h : Hb xs st) (hl : xs.length = st.length) {x : BX} {y : Et} (h1 : d6 x.n y.1 = true) (h2 : y.1.length ≤ 1000000) (h3 : st.length + cnt y.1 ≤ 4000) (h4 : y.2.length + 4001 * cnt y.1 ≤ 16004000) : Hb (xs ++ [x]) (st ++ [y]) := by
 refine ⟨fun i hi => ?_, fun i hi => ?_, fun i hi => ?_, fun i hi => ?_⟩ <;> rw [List.length_append, List.length_singleton] at hi <;> by_cases e : i < st.length
 ·rw [oV (hl ▸ e), oV e]; exact h.r i e
 ·obtain rfl : i = st.length := by omega
  rw [mi, ← hl, mi]; exact h1
 ·rw [oV e]; exact h.l i e
 ·obtain rfl : i = st.length := by omega
  rw [mi]; exact h2
 ·rw [oV e]; exact h.c i e
 ·obtain rfl : i = st.length := by omega
  rw [mi]; exact h3
 ·rw [oV e]; exact h.t i e
 ·obtain rfl : i = st.length := by omega
  rw [mi]; exact h4
end
theorem IR (L : ML) : cnt L ≤ 4000 := by
 unfold cnt
 exact Nat.le_trans List.countP_le_length (by simp)
theorem Hb.start {n : Int} {L : ML} {rv tv : Value} (hr : d6 n L = true) (hl : L.length ≤ 1000000) : Hb [⟨n, rv, tv⟩] [(L, [])] := by
 have h := IR L
 have hx : Hb [] [] := ⟨fun k hk => (by cases hk), fun k hk => (by cases hk), fun k hk => (by cases hk), fun k hk => (by cases hk)⟩
 have := hx.snoc rfl (x := ⟨n, rv, tv⟩) (y := (L, [])) hr hl (by simpa using h) (by dsimp only [List.length_nil]; omega)
 exact this
def QK (ops : Array Oper) (i j : Nat) : Bool := ((ops[i]?).map fun o => o.after.toList.any fun e => Region.binds .any e && e.on == j).getD false
theorem kr {ops : Array Oper} {L : Array Bool} {i j : Nat} (h : i ∈ Region.ready .any ops L) (hd : QK ops i j = true) : L.getD j false = true := by
 unfold Region.ready at h
 have h2 := (List.mem_filter.1 h).2
 rw [Bool.and_eq_true] at h2
 have h3 := h2.2
 unfold QK at hd
 cases e : ops[i]? with
 | none => rw [e] at hd; cases hd
 | some o =>
  rw [e] at h3 hd
  simp only [Option.map_some, Option.getD_some] at h3 hd
  obtain ⟨x, hx, hb⟩ := List.any_eq_true.1 hd
  rw [Bool.and_eq_true] at hb
  rw [← Array.all_toList] at h3
  have := List.all_eq_true.1 h3 x hx
  rw [hb.1] at this
  have e2 : x.on = j := by simpa using hb.2
  rw [e2] at this
  simpa using this
theorem ln {ops : Array Oper} {L : Array Bool} {i : Nat} (h : i ∈ Region.ready .any ops L) : L.getD i false = false := by
 unfold Region.ready at h
 have h2 := (List.mem_filter.1 h).2
 rw [Bool.and_eq_true] at h2
 have h3 : L.getD i true = false := by simpa using h2.1
 rw [Array.getD_eq_getD_getElem?] at h3 ⊢
 cases e : L[i]? with
 | none => rfl
 | some b => rw [e] at h3; exact h3
section
variable {P : Program} {n : Nat} {ops : Array Oper} {Q : (Nat → Value) → World → Prop} {S : World → Prop} {f0 : Nat → Value}
theorem t8 {A : List Nat} {L1 : Array Bool} {T : List Nat} {k : Nat} (I : Array Bool → (Nat → Value) → World → Prop)
  (hstep : ∀ i, A.contains i = true → ∀ L g w, i < L.size → i ∈ Region.ready .any ops L → I L g w → ∃ oi d, ops[i]? = some oi ∧ gE ops (mask T f0 g) oi = true ∧ oi.dst = some d ∧ jS n (some d) = true ∧ pq T d = true ∧
   Yd P oi (mask T f0 g) w fun v w' => (S w' ∨ nk ops L i = true) ∧ I (L.setIfInBounds i true) (upd g d v) w')
  (hfin : ∀ g w, I L1 g w → WT P n ops Q S k L1 (mask T f0 g) w) :
  ∀ (m : Nat) (Ls : List (Array Bool)), Mz ops A L1 m Ls = true → ∀ L, L ∈ Ls → ∀ g w, I L g w → WT P n ops Q S (k + m) L (mask T f0 g) w
 | 0, Ls, h, L, hL, g, w, hI => by
  have e : L = L1 := by
   have := List.all_eq_true.1 h L hL
   exact eq_of_beq this
  subst e
  exact hfin g w hI
 | m + 1, Ls, h, L, hL, g, w, hI => by
  rw [Mz, Bool.and_eq_true] at h
  have h1 := List.all_eq_true.1 h.1 L hL
  rw [Bool.and_eq_true] at h1
  refine ⟨fun hsz hcl a ha => ⟨fun h0 => (by rw [h0] at h1; exact absurd h1.1 (by decide)), fun j hj => ?_⟩⟩
  have hA := List.all_eq_true.1 h1.2 j hj
  have hjlt : j < L.size := by
   obtain ⟨_, oj, hoj, _⟩ := mem_ready.1 hj
   rw [hsz]; exact (Array.getElem?_eq_some_iff.1 hoj).1
  obtain ⟨oi, d, hi, hw, hd, hok, hT, hY⟩ := hstep j hA L g w hjlt hj hI
  refine Fa (K := fun f' w' => (S w' ∨ nk ops L j = true) ∧ WT P n ops Q S (k + m) (L.setIfInBounds j true) f' w') hi hw hd hok ha
   (fun f' a' w' hr' hk => ⟨hk.1, hk.2.out (by simpa using hsz) (hcl.add hj) a' hr'⟩) (hY.mono fun v w' hv => ⟨hv.1, ?_⟩)
  rw [Jp hT]
  refine t8 I hstep hfin m _ h.2 _ ?_ _ _ hv.2
  unfold NW
  rw [List.mem_eraseDups]
  exact List.mem_flatMap.2 ⟨L, hL, List.mem_map.2 ⟨j, hj, rfl⟩⟩
theorem MW {A : List Nat} {L0 L1 : Array Bool} {T : List Nat} {k m : Nat} {w : World} (I : Array Bool → (Nat → Value) → World → Prop) (hc : Mz ops A L1 m [L0] = true) (h0 : I L0 f0 w)
  (hstep : ∀ i, A.contains i = true → ∀ L g w, i < L.size → i ∈ Region.ready .any ops L → I L g w → ∃ oi d, ops[i]? = some oi ∧ gE ops (mask T f0 g) oi = true ∧ oi.dst = some d ∧ jS n (some d) = true ∧ pq T d = true ∧
   Yd P oi (mask T f0 g) w fun v w' => (S w' ∨ nk ops L i = true) ∧ I (L.setIfInBounds i true) (upd g d v) w')
  (hfin : ∀ g w, I L1 g w → WT P n ops Q S k L1 (mask T f0 g) w) : WT P n ops Q S (k + m) L0 f0 w := by
 have := t8 (f0 := f0) (T := T) I hstep hfin m [L0] hc L0 (List.mem_singleton.2 rfl) f0 w h0
 rwa [GS] at this
end
theorem Ry {L : Array Bool} {i j : Nat} (hi : i < L.size) : (L.setIfInBounds i true).getD j false = if j = i then true else L.getD j false := by
 by_cases h : j = i
 ·subst h
  rw [if_pos rfl]
  exact p7.2 (.inl ⟨rfl, hi⟩)
 ·rw [if_neg h]
  cases e : L.getD j false with
  | true => exact p7.2 (.inr e)
  | false =>
   cases e2 : (L.setIfInBounds i true).getD j false with
   | false => rfl
   | true =>
    rcases p7.1 e2 with ⟨q, _⟩ | q
    ·exact absurd q h
    ·rw [e] at q; cases q
structure iz (TV TI : TypeId) (wd : World) (n c : Int) (rest : ML) (vs8 : List Value) (ov : Value) (out : List Int) (f3 f5 f8 f9 f11 f13 f14 f15 : Bool) (u3 u5 u8 u9 u11 u13 u14 u15 : Value) (W : World) : Prop where
 s : d9 wd W
 c5 : f5 = true → f3 = true
 c8 : f8 = true → f3 = true
 c11 : f11 = true → f8 = true ∧ f9 = true
 c14 : f14 = true → f11 = true ∧ f13 = true
 c15 : f15 = true → f14 = true
 o3 : f3 = true → ∃ r vs, u3 = .agg #[.int .i64 n, r] ∧ dh encV 1 TV W 0 r vs ∧ LO TI 0 W vs (oK rest c) ∧ (f9 = true → f11 = false → ∀ x, x ∈ vs → eW u9 x) ∧ (f11 = true → f14 = false → ∀ x, x ∈ vs → eW u11 x)
 o5 : f5 = true → ∃ r, u3 = .agg #[.int .i64 n, r] ∧ u5 = .agg #[.int .i64 n, r, ov]
 o8 : f8 = true → ∃ r, u8 = .agg #[.int .i64 n, r] ∧ dh encV 1 TV W 0 r vs8
 o9 : f9 = true → f11 = false → dh ee 1 TI W wd.heap.size u9 ([] : List Int)
 o11 : f11 = true → f14 = false → dh ee 1 TI W wd.heap.size u11 out
 o13 : f13 = true → f14 = false → dh ee 1 TI W wd.heap.size u13 [c] ∧ (f9 = true → f11 = false → eW u9 u13)
 o14 : f14 = true → dh ee 1 TI W wd.heap.size u14 (out ++ [c])
 o15 : f15 = true → ∃ r, u8 = .agg #[.int .i64 n, r] ∧ u15 = .agg #[.int .i64 n, r, u14]
section
variable {TV TI : TypeId} {wd W W' : World} {n c : Int} {rest : ML} {vs8 : List Value} {ov : Value} {out : List Int} {f3 f5 f8 f9 f11 f13 f14 f15 : Bool} {u3 u5 u8 u9 u11 u13 u14 u15 v : Value} {r : Value} {vs : List Value}
theorem LO.row {N : Nat} {L : ML} {x : Value} (h : LO TI N W vs L) (hx : x ∈ vs) : ∃ l, dh ee 1 TI W N x l := by
 obtain ⟨j, hj, rfl⟩ := fh (d := undef) hx
 exact ⟨_, h.get j (by rw [← h.len]; exact hj)⟩
theorem iz.start (W : World) : iz TV TI W n c rest vs8 ov out false false false false false false false false u3 u5 u8 u9 u11 u13 u14 u15 W := by
 constructor <;> first | exact d9.refl _ | (intro h; cases h)
theorem iz.ext (h : iz TV TI wd n c rest vs8 ov out f3 f5 f8 f9 f11 f13 f14 f15 u3 u5 u8 u9 u11 u13 u14 u15 W) (hE : d9 W W') : iz TV TI wd n c rest vs8 ov out f3 f5 f8 f9 f11 f13 f14 f15 u3 u5 u8 u9 u11 u13 u14 u15 W' :=
 ⟨h.s.trans hE, h.c5, h.c8, h.c11, h.c14, h.c15, fun q => by obtain ⟨r, vs, a, b, c, d⟩ := h.o3 q; exact ⟨r, vs, a, hE.ow b, LO.ext hE c, d⟩, h.o5, fun q => by obtain ⟨r, a, b⟩ := h.o8 q; exact ⟨r, a, hE.ow b⟩,
  fun a b => hE.ow (h.o9 a b), fun a b => hE.ow (h.o11 a b), fun a b => ⟨hE.ow (h.o13 a b).1, (h.o13 a b).2⟩, fun a => hE.ow (h.o14 a), h.o15⟩
theorem iz.p3 (h : iz TV TI wd n c rest vs8 ov out f3 f5 f8 f9 f11 f13 f14 f15 u3 u5 u8 u9 u11 u13 u14 u15 W) (n3 : f3 = false) (hE : d9 W W') (h1 : dh encV 1 TV W' 0 r vs) (h2 : LO TI W.heap.size W' vs (oK rest c)) :
  iz TV TI wd n c rest vs8 ov out true f5 f8 f9 f11 f13 f14 f15 (.agg #[.int .i64 n, r]) u5 u8 u9 u11 u13 u14 u15 W' := by
 have k := h.ext hE
 have n5 : f5 = true → False := fun q => by rw [h.c5 q] at n3; cases n3
 have n8 : f8 = true → False := fun q => by rw [h.c8 q] at n3; cases n3
 have n11 : f11 = true → False := fun q => n8 (h.c11 q).1
 refine ⟨k.s, fun _ => rfl, fun _ => rfl, k.c11, k.c14, k.c15, fun _ => ⟨r, vs, rfl, h1, h2.mono (Nat.zero_le _), fun a b x hx => ?_, fun q => (n11 q).elim⟩, fun q => (n5 q).elim, fun q => (n8 q).elim, k.o9, k.o11, k.o13, k.o14, k.o15⟩
 obtain ⟨l, hl⟩ := h2.row hx
 exact eW.new (dh.lt2 (h.o9 a b)) hl
theorem iz.p5 (h : iz TV TI wd n c rest vs8 ov out f3 f5 f8 f9 f11 f13 f14 f15 u3 u5 u8 u9 u11 u13 u14 u15 W) (n3 : f3 = true) (e : u3 = .agg #[.int .i64 n, r]) :
  iz TV TI wd n c rest vs8 ov out f3 true f8 f9 f11 f13 f14 f15 u3 (.agg #[.int .i64 n, r, ov]) u8 u9 u11 u13 u14 u15 W :=
 ⟨h.s, fun _ => n3, h.c8, h.c11, h.c14, h.c15, h.o3, fun _ => ⟨r, e, rfl⟩, h.o8, h.o9, h.o11, h.o13, h.o14, h.o15⟩
theorem iz.p8 (h : iz TV TI wd n c rest vs8 ov out f3 f5 f8 f9 f11 f13 f14 f15 u3 u5 u8 u9 u11 u13 u14 u15 W) (n3 : f3 = true) (n8 : f8 = false) (hE : d9 W W') (h1 : dh encV 1 TV W' 0 r vs8) :
  iz TV TI wd n c rest vs8 ov out f3 f5 true f9 f11 f13 f14 f15 u3 u5 (.agg #[.int .i64 n, r]) u9 u11 u13 u14 u15 W' := by
 have k := h.ext hE
 have n15 : f15 = true → False := fun q => by rw [(h.c11 (h.c14 (h.c15 q)).1).1] at n8; cases n8
 exact ⟨k.s, k.c5, fun _ => n3, fun q => ⟨rfl, (k.c11 q).2⟩, k.c14, k.c15, k.o3, k.o5, fun _ => ⟨r, rfl, h1⟩, k.o9, k.o11, k.o13, k.o14, fun q => (n15 q).elim⟩
theorem iz.p9 {b : Nat} (h : iz TV TI wd n c rest vs8 ov out f3 f5 f8 f9 f11 f13 f14 f15 u3 u5 u8 u9 u11 u13 u14 u15 W) (n9 : f9 = false) (hb : b = W.heap.size) (hE : d9 W W') (hm : At W' b #[] TI) :
  iz TV TI wd n c rest vs8 ov out f3 f5 f8 true f11 f13 f14 f15 u3 u5 u8 (.slice (some ⟨b, 0, none⟩) 0 0) u11 u13 u14 u15 W' := by
 have k := h.ext hE
 have n11 : f11 = true → False := fun q => by rw [(h.c11 q).2] at n9; cases n9
 have ap : ∀ x, (∀ j, x.ownBlock = some j → j < W.heap.size) → eW (.slice (some ⟨b, 0, none⟩) 0 0) x := fun x hx j h1 h2 => by
  obtain rfl : b = j := Option.some.inj h1
  have := hx b h2
  omega
 refine ⟨k.s, k.c5, k.c8, fun q => (n11 q).elim, k.c14, k.c15, fun q => ?_, k.o5, k.o8, fun _ _ => nV hm (hb ▸ d9.size h.s), k.o11, fun a b => ⟨(k.o13 a b).1, fun _ _ => ap _ (dh.lt2 (h.o13 a b).1)⟩, k.o14, k.o15⟩
 obtain ⟨r, vs, a1, a2, a3, a4, a5⟩ := h.o3 q
 exact ⟨r, vs, a1, hE.ow a2, LO.ext hE a3, fun _ _ x hx => by obtain ⟨l, hl⟩ := a3.row hx; exact ap _ (dh.lt2 hl), fun q => (n11 q).elim⟩
theorem iz.p13 (h : iz TV TI wd n c rest vs8 ov out f3 f5 f8 f9 f11 f13 f14 f15 u3 u5 u8 u9 u11 u13 u14 u15 W) (n13 : f13 = false) (hE : d9 W W') (hm : dh ee 1 TI W' W.heap.size v [c]) :
  iz TV TI wd n c rest vs8 ov out f3 f5 f8 f9 f11 true f14 f15 u3 u5 u8 u9 u11 v u14 u15 W' := by
 have k := h.ext hE
 have n14 : f14 = true → False := fun q => by rw [(h.c14 q).2] at n13; cases n13
 exact ⟨k.s, k.c5, k.c8, k.c11, fun q => (n14 q).elim, k.c15, k.o3, k.o5, k.o8, k.o9, k.o11, fun _ _ => ⟨hm.mono (d9.size h.s), fun a b => eW.new (dh.lt2 (h.o9 a b)) hm⟩, k.o14, k.o15⟩
theorem LO.grownAp {N : Nat} {L : ML} {u : Value} (h : LO TI N W vs L) (ha : ∀ x, x ∈ vs → eW u x) (hG : W.grownBy W' u.ownBlock) : LO TI N W' vs L :=
 ⟨h.len, fun k hk => (h.get k hk).grownAp (ha _ (dU (by rw [h.len]; exact hk))) hG⟩
theorem iz.p11 (h : iz TV TI wd n c rest vs8 ov out f3 f5 f8 f9 f11 f13 f14 f15 u3 u5 u8 u9 u11 u13 u14 u15 W) (hT : TI ≠ TV) (n11 : f11 = false) (n8 : f8 = true) (n9 : f9 = true) (hG : W.grownBy W' u9.ownBlock) (ho : dh ee 1 TI W' wd.heap.size v out)
  (hob : v.ownBlock = u9.ownBlock ∨ v.ownBlock = some W.heap.size) : iz TV TI wd n c rest vs8 ov out f3 f5 f8 f9 true f13 f14 f15 u3 u5 u8 u9 v u13 u14 u15 W' := by
 have n14 : f14 = true → False := fun q => by rw [(h.c14 q).1] at n11; cases n11
 have h9 := h.o9 n9 n11
 refine ⟨du h.s hG (Nat.le_refl _) (fun j hj => dh.lt h9 j hj), h.c5, h.c8, fun _ => ⟨n8, n9⟩, fun q => (n14 q).elim, h.c15, fun q => ?_, h.o5, fun q => ?_, fun _ q => (by cases q), fun _ _ => ho, fun a b => ⟨?_, fun _ q => (by cases q)⟩, fun q => (n14 q).elim, h.o15⟩
 ·obtain ⟨r, vs, a1, a2, a3, a4, a5⟩ := h.o3 q
  exact ⟨r, vs, a1, a2.grownOw h9 hG hT.symm, a3.grownAp (a4 n9 n11) hG, fun _ q => (by cases q), fun _ _ x hx => by obtain ⟨l, hl⟩ := a3.row hx; exact eW.app (a4 n9 n11 x hx) hob hl⟩
 ·obtain ⟨r, a1, a2⟩ := h.o8 q
  exact ⟨r, a1, a2.grownOw h9 hG hT.symm⟩
 ·exact (h.o13 a b).1.grownAp ((h.o13 a b).2 n9 n11) hG
theorem iz.p14 (h : iz TV TI wd n c rest vs8 ov out f3 f5 f8 f9 f11 f13 f14 f15 u3 u5 u8 u9 u11 u13 u14 u15 W) (hT : TI ≠ TV) (n14 : f14 = false) (n11 : f11 = true) (n13 : f13 = true) (hG : W.grownBy W' u11.ownBlock) (ho : dh ee 1 TI W' wd.heap.size v (out ++ [c])) :
  iz TV TI wd n c rest vs8 ov out f3 f5 f8 f9 f11 f13 true f15 u3 u5 u8 u9 u11 u13 v u15 W' := by
 have n15 : f15 = true → False := fun q => by rw [h.c15 q] at n14; cases n14
 have h11 := h.o11 n11 n14
 refine ⟨du h.s hG (Nat.le_refl _) (fun j hj => dh.lt h11 j hj), h.c5, h.c8, h.c11, fun _ => ⟨n11, n13⟩, fun _ => rfl, fun q => ?_, h.o5, fun q => ?_, fun _ q => (by rw [n11] at q; cases q), fun _ q => (by cases q), fun _ q => (by cases q), fun _ => ho, fun q => (n15 q).elim⟩
 ·obtain ⟨r, vs, a1, a2, a3, a4, a5⟩ := h.o3 q
  exact ⟨r, vs, a1, a2.grownOw h11 hG hT.symm, a3.grownAp (a5 n11 n14) hG, fun _ q => (by rw [n11] at q; cases q), fun _ q => (by cases q)⟩
 ·obtain ⟨r, a1, a2⟩ := h.o8 q
  exact ⟨r, a1, a2.grownOw h11 hG hT.symm⟩
theorem iz.p15 (h : iz TV TI wd n c rest vs8 ov out f3 f5 f8 f9 f11 f13 f14 f15 u3 u5 u8 u9 u11 u13 u14 u15 W) (n14 : f14 = true) (e : u8 = .agg #[.int .i64 n, r]) :
  iz TV TI wd n c rest vs8 ov out f3 f5 f8 f9 f11 f13 f14 true u3 u5 u8 u9 u11 u13 u14 (.agg #[.int .i64 n, r, u14]) W :=
 ⟨h.s, h.c5, h.c8, h.c11, h.c14, fun _ => n14, h.o3, h.o5, h.o8, h.o9, h.o11, h.o13, h.o14, fun _ => ⟨r, e, rfl⟩⟩
end
structure nb (n : Int) (L : ML) (bud : Int) (xs : List BX) (st : List Et) (best : List Int) (steps : Int) : Prop where
 sw : qU L st best
 sl : Hb xs st
 len : xs.length = st.length
 bl : best.length ≤ 4000
 s0 : 0 ≤ steps
 sb : steps ≤ bud
 ps : steps.toNat + FK st ≤ 2 ^ cnt L - 1
theorem tG {st : List Et} {k : Nat} (h : st.length = k + 1) : st = st.take k ++ [st.getD k lX] := by
 have h2 : st.take (k + 1) = st.take k ++ [st.getD k lX] := by
  rw [List.take_add_one, List.getD_eq_getElem?_getD, List.getElem?_eq_getElem (show k < st.length by omega)]
  rfl
 rw [← h2, ← h, List.take_length]
theorem Fy {n : Int} {Lx rest : ML} {T : List Int} (hr : d6 n Lx = true) (hf : jk Lx Lx.length = true) (h : lT Lx rest T) : ∀ r, r ∈ rest → 0 < r.length := fun r hr2 => by
 have hs : mX Lx Lx.flatten := fun q hq => by
  match q, hq, wE.1 hf q hq with
  | c :: q', hq, _ => exact ⟨c, List.mem_cons_self .., List.mem_flatten.2 ⟨_, hq, List.mem_cons_self ..⟩⟩
 obtain ⟨X, _, h2, _⟩ := h.dn _ (k9 _ _) (qb hr hs)
 obtain ⟨c, hc, _⟩ := h2 r hr2
 exact List.length_pos_iff.2 fun e => by rw [e] at hc; cases hc
section
variable {n n' : Int} {L rest : ML} {bud steps : Int} {xs : List BX} {st : List Et} {best T : List Int} {k : Nat} {c : Int} {rv tv : Value}
theorem nb.start {best : List Int} (hr : d6 n L = true) (hl : L.length ≤ 1000000) (hb : mX L best) (hbl : best.length ≤ 4000) (h0 : 0 ≤ bud) : nb n L bud [⟨n, rv, tv⟩] [(L, [])] best 0 :=
 ⟨qU.start hb, Hb.start hr hl, rfl, hbl, Int.le_refl _, h0, by simp [FK]⟩
theorem nb.sw' (h : nb n L bud xs st best steps) (hk : st.length = k + 1) : qU L (st.take k ++ [st.getD k lX]) best := by rw [← tG hk]; exact h.sw
theorem nb.drop {best' : List Int} (h : nb n L bud xs st best steps) (hk : st.length = k + 1) (hs : qU L (st.take k) best') (hl : best'.length ≤ 4000) : nb n L bud (xs.take k) (st.take k) best' steps :=
 ⟨hs, h.sl.take h.len k, by rw [List.length_take, List.length_take, h.len], hl, h.s0, h.sb, by
  have h1 := h.ps
  have h2 := Kw (st.take k) (st.getD k lX)
  rw [← tG hk] at h2
  omega⟩
theorem nb.none (h : nb n L bud xs st best steps) (hk : st.length = k + 1) (hf : (!jk (st.getD k lX).1 (st.getD k lX).1.length) = true) : nb n L bud (xs.take k) (st.take k) best steps := by
 have hf2 : ¬ ∀ i, i < (st.getD k lX).1.length → 0 < ((st.getD k lX).1.getD i []).length := fun q => by rw [mG.2 q] at hf; cases hf
 obtain ⟨i, hi⟩ := Classical.not_forall.1 hf2
 obtain ⟨hi, hl⟩ := Classical.not_imp.1 hi
 exact h.drop hk ((h.sw' hk).none (dU (d := []) hi) (List.eq_nil_of_length_eq_zero (by omega))) h.bl
theorem nb.leaf (h : nb n L bud xs st best steps) (hk : st.length = k + 1) (hr : lT (st.getD k lX).1 rest T) (he : rest.length = 0) (hl : ((st.getD k lX).2 ++ T).length < best.length) : nb n L bud (xs.take k) (st.take k) ((st.getD k lX).2 ++ T) steps :=
 h.drop hk ((h.sw' hk).leaf hr (List.eq_nil_of_length_eq_zero he) hl) (Nat.le_trans (Nat.le_of_lt hl) h.bl)
theorem nb.leaf0 (h : nb n L bud xs st best steps) (hk : st.length = k + 1) (hr : lT (st.getD k lX).1 rest T) (hl : ¬ ((st.getD k lX).2 ++ T).length < best.length) : nb n L bud (xs.take k) (st.take k) best steps :=
 h.drop hk ((h.sw' hk).leaf0 hr hl) h.bl
theorem nb.prune (h : nb n L bud xs st best steps) (hk : st.length = k + 1) (hr : lT (st.getD k lX).1 rest T) (hl : best.length ≤ ((st.getD k lX).2 ++ T).length + CJ rest rest.length) : nb n L bud (xs.take k) (st.take k) best steps :=
 h.drop hk ((h.sw' hk).prune hr hl) h.bl
theorem nb.branch {x1 x2 : BX} (h : nb n L bud xs st best steps) (hk : st.length = k + 1) (hr : lT (st.getD k lX).1 rest T) (hrr : d6 n' rest = true) (hT : T.length ≤ 4000) (hrl : rest.length ≤ 1000000) (hc : qB rest c) (hne : ¬ steps = bud) (e1 : x1.n = n') (e2 : x2.n = n') :
  nb n L bud (xs.take k ++ [x1, x2]) (st.take k ++ [(oK rest c, (st.getD k lX).2 ++ T), (q6 rest c, (st.getD k lX).2 ++ T ++ [c])]) best (steps + 1) := by
 have hcm := sq hr.sub
 have h1 := EA hrr hc
 have h2 := Dg hrr hc
 have h3 := h.sl.c k (by omega)
 have h4 := h.sl.t k (by omega)
 have ht : (xs.take k).length = (st.take k).length := by rw [List.length_take, List.length_take, h.len]
 have hk2 : (st.take k).length = k := by rw [List.length_take]; omega
 refine ⟨(h.sw' hk).branch hr c, ?_, by simp only [List.length_append, ht]; rfl, h.bl, by have := h.s0; omega, by have := h.sb; omega, ?_⟩
 ·have hl1 : ((st.getD k lX).2 ++ T).length + 4001 * cnt (oK rest c) ≤ 16004000 := by rw [List.length_append]; omega
  have hl2 : ((st.getD k lX).2 ++ T ++ [c]).length + 4001 * cnt (q6 rest c) ≤ 16004000 := by rw [List.length_append, List.length_append, List.length_singleton]; omega
  have s1 := (h.sl.take h.len k).snoc ht (x := x1) (y := (oK rest c, (st.getD k lX).2 ++ T)) (by rw [e1]; exact BD hrr c) (by dsimp only; rw [len_le]; exact hrl) (by dsimp only; omega) hl1
  have s2 := s1.snoc (by simp only [List.length_append, ht]; rfl) (x := x2) (y := (q6 rest c, (st.getD k lX).2 ++ T ++ [c])) (by rw [e2]; exact vE hrr c) (by dsimp only; have := Iq rest c; omega) (by rw [List.length_append, List.length_singleton]; dsimp only; omega) hl2
  rw [List.append_assoc, List.append_assoc] at s2
  exact s2
 ·have h5 := xy (st := st.take k) (x := st.getD k lX) (a := (st.getD k lX).2 ++ T) (b := (st.getD k lX).2 ++ T ++ [c]) hrr hr hc
  rw [← tG hk] at h5
  have h6 := h.ps
  have h7 := h.s0
  omega
theorem nb.out (h : nb n L bud xs st best steps) (hk : st.length = k + 1) (hr : lT (st.getD k lX).1 rest T) (hrr : d6 n' rest = true) (hc : qB rest c) (he : steps = bud) : bud.toNat + 1 < 2 ^ cnt L := by
 have h5 := xy (st := st.take k) (x := st.getD k lX) (a := []) (b := []) hrr hr hc
 rw [← tG hk] at h5
 have h6 := h.ps
 have h7 := Nat.two_pow_pos (cnt L)
 subst he
 omega
theorem nb.phi_lt (h : st.length = k + 1) : AL (st.take k) < AL st := by
 have := Jf (st.take k) (st.getD k lX)
 rw [← tG h] at this
 exact this
theorem nb.phi_br (hk : st.length = k + 1) (hr : lT (st.getD k lX).1 rest T) (hrr : d6 n' rest = true) (hc : qB rest c) {a b : List Int} : AL (st.take k ++ [(oK rest c, a), (q6 rest c, b)]) < AL st := by
 have := Dt (st := st.take k) (x := st.getD k lX) (a := a) (b := b) hrr hr hc
 rw [← tG hk] at this
 exact this
end
theorem gR.two {TV TI : TypeId} {W : World} {xs : List BX} {st : List Et} {x1 x2 : BX} {y1 y2 : Et} {vs1 vs2 : List Value} (h : gR TV TI W xs st) (a1 : dh encV 1 TV W 0 x1.rv vs1) (a2 : LO TI 0 W vs1 y1.1) (a3 : dh ee 1 TI W 0 x1.tv y1.2)
  (b1 : dh encV 1 TV W 0 x2.rv vs2) (b2 : LO TI 0 W vs2 y2.1) (b3 : dh ee 1 TI W 0 x2.tv y2.2) : gR TV TI W (xs ++ [x1, x2]) (st ++ [y1, y2]) := by
 have := (h.snoc a1 a2 a3).snoc b1 b2 b3
 rwa [List.append_assoc, List.append_assoc] at this
theorem Pp {n : Int} {v u : Value} (h : v.oneCell' = true) (k : u.oneCell' = true) : [Value.int .i64 n, v, u].all Value.oneCell' = true := by simp only [List.all_cons, List.all_nil, h, k, Bool.and_true]; rfl
section
variable {P : Program} {f : Nat → Value} {w : World} {d : Option Nat} {t t2 ty : TypeId} {ps : String} {af : Array Edge} {g : Option (Nat × Bool)} {x y : Operand}
theorem KG {a b : Int} {k : Nat} (hx : dQ f x = .int .i64 a) (hy : dQ f y = .int .i64 b) (hk : a - b = (k : Int)) (hl : k ≤ 1000000000) :
  (execOp (dQ f) ⟨d, .binOp .sub t x y t2, ty, ps, af, g⟩).run P w = .ok (.value (.int .i64 (k : Int))) w := by
 rw [← hk]
 exact kD hx hy (by omega) (by omega)
end
theorem MV {n m : Int} {a b c d : Value} (ha : a.oneCell' = true) (hb : b.oneCell' = true) (hc : c.oneCell' = true) (hd : d.oneCell' = true) : ([(⟨n, a, b⟩ : BX), ⟨m, c, d⟩].flatMap El).all Value.oneCell' = true := by
 simp only [List.flatMap_cons, List.flatMap_nil, El, List.append_nil, List.cons_append, List.nil_append, List.all_cons, List.all_nil, ha, hb, hc, hd, Bool.and_true]
 rfl
theorem pF {L : Array Bool} {i : Nat} (hi : i < L.size) : (L.setIfInBounds i true).getD i false = true := (Ry hi).trans (if_pos rfl)
theorem ex {L : Array Bool} {i j : Nat} (hi : i < L.size) (h : j ≠ i) : (L.setIfInBounds i true).getD j false = L.getD j false := (Ry hi).trans (if_neg h)
theorem iz.cast {TV TI : TypeId} {wd W : World} {n c : Int} {rest : ML} {vs8 : List Value} {ov : Value} {out : List Int} {f3 f5 f8 f9 f11 f13 f14 f15 g3 g5 g8 g9 g11 g13 g14 g15 : Bool} {u3 u5 u8 u9 u11 u13 u14 u15 : Value}
  (h : iz TV TI wd n c rest vs8 ov out f3 f5 f8 f9 f11 f13 f14 f15 u3 u5 u8 u9 u11 u13 u14 u15 W) (e3 : g3 = f3) (e5 : g5 = f5) (e8 : g8 = f8) (e9 : g9 = f9) (e11 : g11 = f11) (e13 : g13 = f13) (e14 : g14 = f14) (e15 : g15 = f15) :
  iz TV TI wd n c rest vs8 ov out g3 g5 g8 g9 g11 g13 g14 g15 u3 u5 u8 u9 u11 u13 u14 u15 W := by
 subst e3 e5 e8 e9 e11 e13 e14 e15
 exact h
theorem Lv {n : Int} {Lx rest : ML} {T : List Int} (hr : d6 n Lx = true) (hf : jk Lx Lx.length = true) (h : lT Lx rest T) (hp : 0 < rest.length) : ∃ c, qB rest c := by
 have hm : rest.getD 0 [] ∈ rest := dU hp
 have := Fy hr hf h _ hm
 exact ⟨_, _, hm, dU (d := 0) this⟩
theorem nb.fin {n : Int} {L : ML} {bud steps : Int} {xs : List BX} {st : List Et} {best : List Int} (h : nb n L bud xs st best steps) (hr : d6 n L = true) (hx : xs.length = 0) : M0 L n (kE best n.toNat) := by
 have : st = [] := List.eq_nil_of_length_eq_zero (by rw [← h.len]; exact hx)
 subst this
 exact h.sw.fin hr
end
end Go.Proofs.YteimkklmmanncaaGreat
