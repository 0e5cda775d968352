/- What the fewest rows come to, with the room and the steps they ask for. No program in it. The walks of package minim. Room and steps that are enough, for few inputs and outputs. No program in it. The document's fewest rows, tried in all choices; and that enough is enough. No program in it. The walks -/
import Derived.Test.YteimkklmmanncaaGreatMin
namespace Go.Proofs.YteimkklmmanncaaGreat
set_option linter.unusedVariables false
set_option linter.unusedSimpArgs false
section
open Go Go.RowKit
def JW (R : Nat) (S : Sp) (e : Int) : Prop := ∃ ns' id, NW R [] S ns' id e ∧ ns'.length ≤ R ∧ Wf ns'
def NE (S : Sp) (T : Nat) : Prop := ∃ L ks, lj (kW S (eL S)) L ks ∧ T + 1 < 2 ^ cnt L
theorem vu {U r : List Int} (h : U.Nodup) : ∀ k, (oz U r k).Nodup
 | 0 => h
 | k + 1 => i9 (vu h k) _
theorem NH {l : List Int} {c : Int} : c ∈ oz [] l l.length ↔ c ∈ l := by
 rw [oN _ (Nat.le_refl _), List.take_length]; simp
theorem EH {n b : Int} {L : ML} {N : Nat} {TI : TypeId} {v : Value} {w' : World} (h : (∃ tv X s, v = .tuple #[tv, .int .i64 s, .int .i64 0] ∧ dh eb 1 TI w' N tv X ∧ JM L n X ∧ X.length ≤ 4000 ∧ 0 ≤ s ∧ s ≤ b) ∨ (v = .tuple #[.slice none 0 0, .int .i64 b, .int .i64 6] ∧ b.toNat + 1 < 2 ^ cnt L)) (hb : 0 ≤ b) :
  ∃ tv X s e, v = .tuple #[tv, .int .i64 s, .int .i64 e] ∧ dh eb 1 TI w' N tv X ∧ X.length ≤ 4000 ∧ 0 ≤ s ∧ s ≤ b ∧ (e = 0 → JM L n X) ∧ (¬ e = 0 → e = 6 ∧ b.toNat + 1 < 2 ^ cnt L) := by
 obtain ⟨tv, X, s, h1, h2, h3, h4, h5, h6⟩ | ⟨h1, h2⟩ := h
 ·exact ⟨tv, X, s, 0, h1, h2, h4, h5, h6, fun _ => h3, fun q => absurd rfl q⟩
 ·exact ⟨_, [], b, 6, h1, dh.nil, Nat.zero_le _, hb, Int.le_refl _, (fun q => (by cases q)), (fun _ => ⟨rfl, h2⟩)⟩
section
variable {S : Sp}
theorem LV (hr : dJ S = true) (hl : (eL S).length ≤ 4000) : xX S (eL S) = 0 := Lu hr (fun k hk => gj (ud hr k hk)) (by omega)
theorem EI {L : ML} {T : List Int} (hr : dJ S = true) (hl : (eL S).length ≤ 4000) (h : lj (kW S (eL S)) L T) : iV L L.length = true := by
 have h1 := KD hr hl
 obtain ⟨X, _, h2, _⟩ := h.dn _ (kB _ _) (oZ (jK (S := S) hl) h1)
 exact KG h2
theorem FG (hr : dJ S = true) : (kW S (eL S)).length ≤ 1024 := by rw [Fk]; exact IR hr
theorem Pg {R : Nat} {ns' : List Nd} {id : Nat} {e : Int} (h : NW R [] S ns' id e) (h0 : ¬ e = 0) : e = 5 := (My h).resolve_left h0
end
theorem kK {v : Value} {a b c : Int} (h : v.oneCell' = true) : [v, Value.int .i64 a, .int .i64 b, .int .i64 c].all Value.oneCell' = true := by simp only [List.all_cons, List.all_nil, h, Bool.and_true, Bool.true_and]; rfl
def Pc (R T : Nat) (S : Sp) (how sp e : Int) (Rr : List Rw) : Prop := (e = 0 ∧ how = 1 ∧ 0 ≤ sp ∧ sp ≤ T ∧ JW R S 0 ∧ ER S Rr) ∨ (e = 5 ∧ JW R S 5) ∨ (e = 6 ∧ JW R S 0 ∧ NE S T)
def pl (b0 b1 : Int) : Prop := (0 ≤ b0 ∧ b0 ≤ 20000) ∧ 0 ≤ b1 ∧ b1 ≤ 1000000
instance (b0 b1 : Int) : Decidable (pl b0 b1) := inferInstanceAs (Decidable (_ ∧ _))
def LB (R T : Nat) (S : Sp) (how why sp : Int) (Rr : List Rw) : Prop := (how = 1 ∧ why = 0 ∧ 0 ≤ sp ∧ sp ≤ T ∧ JW R S 0 ∧ ER S Rr) ∨ (how = 2 ∧ Rr = xh S (kC S) ∧ ((why = 5 ∧ sp = 0 ∧ JW R S 5) ∨ (why = 6 ∧ sp = T ∧ JW R S 0 ∧ NE S T)))
theorem Mp {b0 b1 : Int} (h : pl b0 b1) : ∃ R T : Nat, b0 = (R : Int) ∧ b1 = (T : Int) ∧ True ∧ R ≤ 20000 ∧ T ≤ 1000000 := by
 obtain ⟨⟨h1, h2⟩, h3, h4⟩ := h
 exact ⟨b0.toNat, b1.toNat, by omega, by omega, trivial, by omega, by omega⟩
section
variable {R T : Nat} {S : Sp} {how sp e : Int} {Rr : List Rw}
theorem zi (h : Pc R T S how sp e Rr) (he : e = 0) : LB (R : Int).toNat (T : Int).toNat S how 0 sp Rr := by
 rw [Int.toNat_natCast, Int.toNat_natCast]
 rcases h with h | h | h
 ·exact .inl ⟨h.2.1, rfl, h.2.2.1, h.2.2.2.1, h.2.2.2.2.1, h.2.2.2.2.2⟩
 ·have := h.1; omega
 ·have := h.1; omega
theorem zL (h : Pc R T S how sp e Rr) (he : e = 6) : LB (R : Int).toNat (T : Int).toNat S 2 e (T : Int) (xh S (kC S)) := by
 rw [Int.toNat_natCast, Int.toNat_natCast]
 rcases h with h | h | h
 ·have := h.1; omega
 ·have := h.1; omega
 ·exact .inr ⟨rfl, rfl, .inr ⟨he, rfl, h.2⟩⟩
theorem sM (h : Pc R T S how sp e Rr) (h0 : ¬ e = 0) (h6 : ¬ e = 6) : LB (R : Int).toNat (T : Int).toNat S 2 e 0 (xh S (kC S)) := by
 rw [Int.toNat_natCast, Int.toNat_natCast]
 rcases h with h | h | h
 ·exact absurd h.1 h0
 ·exact .inr ⟨rfl, rfl, .inl ⟨h.1, rfl, h.2⟩⟩
 ·exact absurd h.1 h6
end
end
section
open Go Go.RowKit
theorem MQ : dH Tryz.prog 65 = true := by kernel_rfl
theorem M8 : dH Tryz.prog 66 = true := by kernel_rfl
theorem Nz : dH Tryz.prog 14 = true := by kernel_rfl
theorem kO : eH Tryz.prog 32 = some (.agg #[.slice none 0 0, .int .i64 0, .int .i64 0, .int .i64 0]) := by kernel_rfl
theorem sd : fw Tryz.prog 26 0 = some 0 := by kernel_rfl
theorem Mv : dH Tryz.prog 42 = true := by kernel_rfl
theorem su : (Tryz.prog.info? 29).map (·.size) = some 1 := by kernel_rfl
theorem je {f : Nat → Value} {w : World} {d : Option Nat} {ty : TypeId} {ps : String} {af : Array Edge} {g : Option (Nat × Bool)}    :
    (execOp (dK f) ⟨d, .build 32 #[], ty, ps, af, g⟩).run Tryz.prog w = .ok (.value (.agg #[.slice none 0 0, .int .i64 0, .int .i64 0, .int .i64 0])) w := by
  obtain ⟨i0, hi0, hz0⟩ := Option.bind_eq_some_iff.1 (show (Tryz.prog.info? 32).bind (·.zero) = _ from kO)
  obtain ⟨j3, hj3, hs3⟩ := Option.map_eq_some_iff.1 ia
  obtain ⟨j29, hj29, hs29⟩ := Option.map_eq_some_iff.1 su
  obtain ⟨j30, hj30, hs30⟩ := Option.map_eq_some_iff.1 pX
  simp [execOp, Instr.build, zeroValue, typeInfo, sizeOf, hi0, hz0, run_underlying Tryz.underlying32, Instr.fill, eW, hj3, hs3, hj29, hs29, hj30, hs30]
theorem eR : kM Tryz.prog 32 = some 4 := by kernel_rfl
theorem Mj : dH Tryz.prog 43 = true := by kernel_rfl
theorem pD : fw Tryz.prog 26 1 = some 1 := by kernel_rfl
theorem Ms : dH Tryz.prog 45 = true := by kernel_rfl
theorem vh {f : Nat → Value} {w : World} {d : Option Nat} {ty : TypeId} {ps : String} {af : Array Edge} {g : Option (Nat × Bool)} {x0 x1 : Operand} {c0_0 c1_0 : Value} (h0 : dK f x0 = c0_0) (k0 : c0_0.cells = #[c0_0]) (h1 : dK f x1 = c1_0) (k1 : c1_0.cells = #[c1_0]) :
    (execOp (dK f) ⟨d, .build 32 #[(1, x0), (3, x1)], ty, ps, af, g⟩).run Tryz.prog w = .ok (.value (.agg #[.slice none 0 0, c0_0, .int .i64 0, c1_0])) w := by
  obtain ⟨i0, hi0, hz0⟩ := Option.bind_eq_some_iff.1 (show (Tryz.prog.info? 32).bind (·.zero) = _ from kO)
  obtain ⟨j3, hj3, hs3⟩ := Option.map_eq_some_iff.1 ia
  obtain ⟨j29, hj29, hs29⟩ := Option.map_eq_some_iff.1 su
  obtain ⟨j30, hj30, hs30⟩ := Option.map_eq_some_iff.1 pX
  simp [execOp, h0, k0, h1, k1, Instr.build, zeroValue, typeInfo, sizeOf, hi0, hz0, run_underlying Tryz.underlying32, Instr.fill, eW, hj3, hs3, hj29, hs29, hj30, hs30]
theorem lR : fw Tryz.prog 32 0 = some 0 := by kernel_rfl
theorem NB : dH Tryz.prog 21 = true := by kernel_rfl
theorem MD : dH Tryz.prog 22 = true := by kernel_rfl
theorem qC {f : Nat → Value} {w : World} {d : Option Nat} {ty : TypeId} {ps : String} {af : Array Edge} {g : Option (Nat × Bool)} {x0 x1 x2 x3 : Operand} {c0_0 c1_0 c2_0 c3_0 : Value} (h0 : dK f x0 = c0_0) (k0 : c0_0.cells = #[c0_0]) (h1 : dK f x1 = c1_0) (k1 : c1_0.cells = #[c1_0]) (h2 : dK f x2 = c2_0) (k2 : c2_0.cells = #[c2_0]) (h3 : dK f x3 = c3_0) (k3 : c3_0.cells = #[c3_0]) :
    (execOp (dK f) ⟨d, .build 32 #[(0, x0), (1, x1), (2, x2), (3, x3)], ty, ps, af, g⟩).run Tryz.prog w = .ok (.value (.agg #[c0_0, c1_0, c2_0, c3_0])) w := by
  obtain ⟨i0, hi0, hz0⟩ := Option.bind_eq_some_iff.1 (show (Tryz.prog.info? 32).bind (·.zero) = _ from kO)
  obtain ⟨j3, hj3, hs3⟩ := Option.map_eq_some_iff.1 ia
  obtain ⟨j29, hj29, hs29⟩ := Option.map_eq_some_iff.1 su
  obtain ⟨j30, hj30, hs30⟩ := Option.map_eq_some_iff.1 pX
  simp [execOp, h0, k0, h1, k1, h2, k2, h3, k3, Instr.build, zeroValue, typeInfo, sizeOf, hi0, hz0, run_underlying Tryz.underlying32, Instr.fill, eW, hj3, hs3, hj29, hs29, hj30, hs30]
theorem kc : kM Tryz.prog 26 = some 2 := by kernel_rfl
theorem Nw : dH Tryz.prog 19 = true := by kernel_rfl
theorem Ma : eH Tryz.prog 30 = some (.int .i64 0) := by kernel_rfl
theorem Gz : dH Tryz.prog 20 = true := by kernel_rfl
theorem y9 : eH Tryz.prog 26 = some (.agg #[.int .i64 0, .int .i64 0]) := by kernel_rfl
theorem oO {f : Nat → Value} {w : World} {d : Option Nat} {ty : TypeId} {ps : String} {af : Array Edge} {g : Option (Nat × Bool)}    :
    (execOp (dK f) ⟨d, .build 26 #[], ty, ps, af, g⟩).run Tryz.prog w = .ok (.value (.agg #[.int .i64 0, .int .i64 0])) w := by
  obtain ⟨i0, hi0, hz0⟩ := Option.bind_eq_some_iff.1 (show (Tryz.prog.info? 26).bind (·.zero) = _ from y9)
  obtain ⟨j3, hj3, hs3⟩ := Option.map_eq_some_iff.1 ia
  simp [execOp, Instr.build, zeroValue, typeInfo, sizeOf, hi0, hz0, run_underlying Tryz.underlying26, Instr.fill, eW, hj3, hs3]
theorem kn {f : Nat → Value} {w : World} {d : Option Nat} {ty : TypeId} {ps : String} {af : Array Edge} {g : Option (Nat × Bool)} {x0 x1 : Operand} {c0_0 c1_0 : Value} (h0 : dK f x0 = c0_0) (k0 : c0_0.cells = #[c0_0]) (h1 : dK f x1 = c1_0) (k1 : c1_0.cells = #[c1_0]) :
    (execOp (dK f) ⟨d, .build 26 #[(0, x0), (1, x1)], ty, ps, af, g⟩).run Tryz.prog w = .ok (.value (.agg #[c0_0, c1_0])) w := by
  obtain ⟨i0, hi0, hz0⟩ := Option.bind_eq_some_iff.1 (show (Tryz.prog.info? 26).bind (·.zero) = _ from y9)
  obtain ⟨j3, hj3, hs3⟩ := Option.map_eq_some_iff.1 ia
  simp [execOp, h0, k0, h1, k1, Instr.build, zeroValue, typeInfo, sizeOf, hi0, hz0, run_underlying Tryz.underlying26, Instr.fill, eW, hj3, hs3]
set_option maxRecDepth 20000 in
theorem uC (S : Sp) (onV mayV : Value) (R : Nat) (w : World) (hon : dO gr 4 w onV S.on) (hmay : dO gr 4 w mayV S.may) (hr : dJ S = true) (hR : R ≤ 20000) :
    Fn Tryz.prog 42 #[.agg #[.int .i64 S.n, onV, mayV], .int .i64 (R : Int)] w fun v w' => ∃ x e, v = .tuple #[x, .int .i64 e] ∧ JW R S e ∧ (e = 0 → dh gK 3 42 w' w.heap.size x (eL S)) := by
 refine dr (n := 31) Tryz.func42 rfl rfl (Nat.le_of_ble_eq_true rfl) ?_
 have hB : Below w.heap.size w w := Below.refl _ _
 refine Zr <| Zy (dW (c := #[_, _, _]) rfl rfl fun A W3 g m a => ?_)
 have B := ZO g hB
 clear g
 replace hB := Ze hB m
 refine Zw (.slice none 0 0) rfl <| Zw (.int .i64 0) rfl <| cT <| Zr <| Zi rfl <| ZC MQ (Fl R _ hR) rfl fun C W8 h o => ?_
 have p := (Below.size hB)
 replace hB := Ze hB h
 replace a := h.at a
 obtain ⟨bz, ba, bm, rfl, hz, hD⟩ := o
 replace hD := fy.mono hD p
 refine Zw (.tuple #[.pointer (some ⟨bz, 0, none⟩), .int .i64 0]) rfl <| Zv (dF rfl) <| Zv (dG rfl) <| Zp rfl <| Zw (.int .i64 0) rfl <| cT <| cY fun D r => Zr <| Zw (.int .i64 0) rfl <| Zv (fC rfl rfl) <| cT <| ZQ rfl (fun i => ?_) fun i => ?_
 exact absurd rfl i
 refine c7 <| r _ _ <| cY fun E s => Zr <| Zp rfl <| Zv (da rfl eT rfl a) <| ZH (vs := [.pointer (some ⟨bz, 0, none⟩), .agg #[_, _, _]]) M8 (yg w _ _ _ _ _ S onV mayV _ hB hz hD hr hon hmay) rfl fun F G t => ?_
 obtain ⟨H, u, j, rfl, d, y, k⟩ := t
 replace hB := Below.dx hB (Nat.le_refl _) (Nat.le_refl _) d
 replace a := At.dx hD d a Dd Dd
 replace hz := At.dx hD d hz Dd Dd
 replace hD := y
 refine Zw (.tuple #[.int .i64 (u : Int), .int .i64 j]) rfl <| Zv (dF rfl) <| Zv (dG rfl) <| Zi rfl <| Zi rfl <| cT ?_
 have hro5 := hD.room
 have hwf5 := hD.wf
 refine Zr <| Zi rfl <| Zv (fC rfl rfl) <| cT <| ZQ rfl (fun f => ?_) fun f => ?_
 refine Zr <| Zi rfl <| Zw (.slice none 0 0) rfl <| Zi rfl <| cT <| Zt <| dZ (v := .slice none 0 0) rfl (v1 := .int .i64 _) rfl ⟨hB, ?_⟩
 exact ⟨_, _, rfl, ⟨_, _, k, hro5, hwf5⟩, fun q => absurd q f⟩
 refine c7 <| s _ _ ?_
 have he0 : j = 0 := Decidable.of_not_not f
 refine Zr <| Zv (da rfl eT rfl a) <| ZC (vs := [.agg #[_, _, _]]) Nz (zC S _ _  _ (Below.slT hB hon) (Below.slT hB hmay) ) rfl fun I J b l => ?_
 have z := (Below.size hB)
 replace hB := Ze hB b
 replace a := b.at a
 replace hD := fy.ext b hD
 replace hz := b.at hz
 rw [if_pos hr] at l
 obtain ⟨xl, rfl, hol⟩ := l
 replace hol := dh.mono hol z
 refine Zv (dF rfl) <| Zv (dG rfl) <| Zw xl rfl <| Zw (.int .i64 0) rfl <| cT <| Zt <| dZ (v := xl) rfl (v1 := .int .i64 0) rfl ⟨hB, ?_⟩
 exact ⟨_, _, rfl, ⟨_, _, he0 ▸ k, hro5, hwf5⟩, fun _ => hol⟩
set_option maxRecDepth 20000 in
theorem v5 (S : Sp) (onV mayV : Value) (R T : Nat) (w : World) (hon : dO gr 4 w onV S.on) (hmay : dO gr 4 w mayV S.may) (hr : dJ S = true) (hR : R ≤ 20000) (hT : T ≤ 1000000) (h4 : S.n ≤ 4) (h3 : S.on.length ≤ 3) :
    Fn Tryz.prog 19 #[.agg #[.int .i64 S.n, onV, mayV], .agg #[.int .i64 (R : Int), .int .i64 (T : Int)]] w fun v w' => ∃ x how sp e Rr, v = .tuple #[.agg #[x, .int .i64 how, .int .i64 0, .int .i64 sp], .int .i64 e] ∧ dh gK 3 42 w' w.heap.size x Rr ∧ Pc R T S how sp e Rr := by
 refine dr (n := 91) Tryz.func19 rfl rfl (Nat.le_of_ble_eq_true rfl) ?_
 have hB : Below w.heap.size w w := Below.refl _ _
 refine Zr <| Zy (dW (c := #[_, _, _]) rfl rfl fun aB W3 ai aC f => ?_)
 have bm := ZO ai hB
 clear ai
 replace hB := Ze hB aC
 refine Zy (dW (c := #[_, _]) rfl rfl fun aD W6 aj ak g => ?_)
 have bn := ZO aj hB
 clear aj
 replace hB := Ze hB ak
 replace f := ak.at f
 refine Zy (dp kO rfl fun al W9 ao U d => ?_)
 have V := ZO ao hB
 clear ao
 replace hB := Ze hB U
 replace f := U.at f
 replace g := U.at g
 refine Zw (.int .i64 0) rfl <| cT <| Zr <| Zv (da rfl eT rfl f) <| Zf rfl sd <| Zl rfl dC g rfl <| ZC (vs := [.agg #[_, _, _], .int .i64 _]) Mv (uC S _ _ R _ (Below.slT hB hon) (Below.slT hB hmay) hr hR) rfl fun bo bp L aE => ?_
 have aF := (Below.size hB)
 replace hB := Ze hB L
 replace f := L.at f
 replace g := L.at g
 replace d := L.at d
 obtain ⟨x1_3, e1_3, rfl, hno1_3, hxo1_3⟩ := aE
 have hszP := aF
 refine Zw (.tuple #[x1_3, .int .i64 e1_3]) rfl <| Zv (dF rfl) <| Zv (dG rfl) <| Zw x1_3 rfl <| Zw (.int .i64 e1_3) rfl <| cT <| cY fun bq aG => Zr <| Zw (.int .i64 e1_3) rfl <| Zv (fC rfl rfl) <| cT <| ZQ rfl (fun X => ?_) fun X => ?_
 refine Zr <| Zv (je ) <| Zw (.int .i64 e1_3) rfl <| Zy (df rfl rfl eR rfl d rfl rfl fun br Y aH => ?_)
 replace hB := Zg hB Y V
 replace f := At.grownAt f d Y Dd
 replace g := At.grownAt g d Y Dd
 replace d := aH
 refine Zw (.int .i64 e1_3) rfl <| cT <| Zt <| fj rfl eR d rfl (v1 := .int .i64 e1_3) rfl ⟨hB, ?_⟩
 exact ⟨_, _, _, _, _, rfl, dh.nil, .inr (.inl (by obtain ⟨ns', id, h⟩ := hno1_3; obtain rfl := Pg h.1 X; exact ⟨rfl, ns', id, h⟩))⟩
 refine c7 <| aG _ _ ?_
 have he0 : e1_3 = 0 := Decidable.of_not_not X
 have hxo := dh.mono (hxo1_3 he0) hszP
 have hl2 := Ev hr h4 h3
 have hl4 : (eL S).length ≤ 4000 := by omega
 have aI := LV hr hl4
 have aJ := jK (S := S) hl4
 have hrl0 := FG hr
 refine Zr <| Zv (da rfl eT rfl f) <| Zw x1_3 rfl <| ZC (vs := [.agg #[_, _, _], x1_3]) Mj (yo S _ _ _ (eL S) _ (Below.slT hB hon) (Below.slT hB hmay) hxo.sl Om (LW hr)) rfl fun bs bt H ap => ?_
 replace hB := Ze hB H
 replace f := H.at f
 replace g := H.at g
 replace d := H.at d
 replace hxo := H.ow hxo
 rw [if_pos aI] at ap
 obtain ⟨rv4_2, bu, rfl, hk4_2, hLO4_2⟩ := ap
 replace hk4_2 := dh.mono hk4_2 (Nat.zero_le _)
 replace hLO4_2 := LO.mono hLO4_2 (Nat.zero_le _)
 refine Zw (.tuple #[.agg #[.int .i64 _, rv4_2], .int .i64 0]) rfl <| Zv (dF rfl) <| Zv (dG rfl) <| Zy (dp gX rfl fun aK bv aq D i => ?_)
 have aL := ZO aq hB
 clear aq
 replace hB := Ze hB D
 replace f := D.at f
 replace g := D.at g
 replace d := D.at d
 replace hxo := D.ow hxo
 replace hk4_2 := D.ow hk4_2
 replace hLO4_2 := LO.ext D hLO4_2
 refine Zy (df rfl rfl dE rfl i rfl (by exact gY (dh.one hk4_2)) fun bw E aM => ?_)
 replace hB := Zg hB E aL
 replace f := At.grownAt f i E Dd
 replace g := At.grownAt g i E Dd
 replace d := At.grownAt d i E Dd
 replace hxo := dh.grownAt hxo i E Dd
 replace hk4_2 := dh.grownAt hk4_2 i E Dd
 replace hLO4_2 := LO.grownAt hLO4_2 i E Dd
 replace i := aM
 refine Zw (.int .i64 0) rfl <| cT <| cY fun bx aN => Zr <| Zw (.int .i64 0) rfl <| Zv (fC rfl rfl) <| cT <| ZQ rfl (fun ar => ?_) fun ar => ?_
 exact absurd rfl ar
 refine c7 <| aN _ _ <| Zr <| Zv (da rfl dE rfl i) <| ZC (vs := [.agg #[_, _]]) Ij (ox _ _ _ (kW S (eL S)) _ (dh.mono hk4_2 (Nat.zero_le _)) (LO.mono hLO4_2 (Nat.zero_le _)) aJ Om) rfl fun bz bA C aO => ?_
 have aP := (Below.size hB)
 replace hB := Ze hB C
 replace f := C.at f
 replace g := C.at g
 replace d := C.at d
 replace hxo := C.ow hxo
 replace hk4_2 := C.ow hk4_2
 replace hLO4_2 := LO.ext C hLO4_2
 replace i := C.at i
 obtain ⟨tv7_1, T7_1, rv7_1, bB, L7_1, rfl, ht7_1, hk7_1, hLO7_1, hrd7_1, aQ, hln7_1, hTl7_1⟩ := aO
 skip
 replace ht7_1 := dh.mono ht7_1 aP
 refine Zw (.tuple #[tv7_1, .agg #[.int .i64 _, rv7_1], .int .i64 0]) rfl <| Zv (mi rfl) <| Zv (qY rfl) <| Zv (rV rfl) <| Zy (dp gX rfl fun aR bC Z s l => ?_)
 have aS := ZO Z hB
 have aT := Zn Z i.lt
 clear Z
 replace hB := Ze hB s
 replace f := s.at f
 replace g := s.at g
 replace d := s.at d
 replace hxo := s.ow hxo
 replace hk4_2 := s.ow hk4_2
 replace hLO4_2 := LO.ext s hLO4_2
 replace i := s.at i
 replace ht7_1 := s.ow ht7_1
 replace hk7_1 := s.ow hk7_1
 replace hLO7_1 := LO.ext s hLO7_1
 refine Zw tv7_1 rfl <| Zy (df rfl rfl dE rfl l rfl (by exact gY (dh.one hk7_1)) fun bD t aU => ?_)
 replace hB := Zg hB t aS
 replace f := At.grownAt f l t Dd
 replace g := At.grownAt g l t Dd
 replace d := At.grownAt d l t Dd
 replace hxo := dh.grownAt hxo l t Dd
 replace hk4_2 := dh.grownAt hk4_2 l t Dd
 replace hLO4_2 := LO.grownAt hLO4_2 l t Dd
 replace i := At.grownNe i aT t
 replace ht7_1 := dh.grownAt ht7_1 l t Dd
 replace hk7_1 := dh.grownAt hk7_1 l t Dd
 replace hLO7_1 := LO.grownAt hLO7_1 l t Dd
 replace l := aU
 refine Zw (.int .i64 0) rfl <| cT <| Zr <| Zv (da rfl dE rfl l) <| Zf rfl pD <| Zl rfl dC g rfl <| ZC (vs := [.agg #[_, _], .int .i64 _]) Ms (tq _ _ _ L7_1 (T : Int) _ (dh.mono hk7_1 (Nat.zero_le _)) (LO.mono hLO7_1 (Nat.zero_le _)) aQ Om (EI hr hl4 hrd7_1) Om) rfl fun bE bF q aV => ?_
 have bG := dh.lt2 ht7_1
 have aW := (Below.size hB)
 replace hB := Ze hB q
 replace f := q.at f
 replace g := q.at g
 replace d := q.at d
 replace hxo := q.ow hxo
 replace hk4_2 := q.ow hk4_2
 replace hLO4_2 := LO.ext q hLO4_2
 replace i := q.at i
 replace ht7_1 := q.ow ht7_1
 replace hk7_1 := q.ow hk7_1
 replace hLO7_1 := LO.ext q hLO7_1
 replace l := q.at l
 obtain ⟨tv8_3, X8_3, s8_3, e8_3, rfl, ht8_3, hXl8_3, aX, hsb8_3, hfw8_3, hto8_3⟩ := EH aV (Int.natCast_nonneg _)
 replace ht8_3 := dh.mono ht8_3 aW
 refine Zw (.tuple #[tv8_3, .int .i64 s8_3, .int .i64 e8_3]) rfl <| Zv (mi rfl) <| Zv (qY rfl) <| Zv (rV rfl) <| Zw tv8_3 rfl <| Zw (.int .i64 s8_3) rfl <| Zw (.int .i64 e8_3) rfl <| cT <| cY fun bH aY => Zr <| Zw (.int .i64 e8_3) rfl <| Zv (fC rfl rfl) <| cT <| ZQ rfl (fun M => ?_) fun M => ?_
 refine Zr <| Zv (je ) <| Zw (.int .i64 e8_3) rfl <| Zy (df rfl rfl eR rfl d rfl rfl fun bI A aZ => ?_)
 replace hB := Zg hB A V
 replace f := At.grownAt f d A Dd
 replace g := At.grownAt g d A Dd
 replace hxo := dh.grownAt hxo d A Dd
 replace hk4_2 := dh.grownAt hk4_2 d A Dd
 replace i := At.grownAt i d A Dd
 replace ht7_1 := dh.grownAt ht7_1 d A Dd
 replace hk7_1 := dh.grownAt hk7_1 d A Dd
 replace l := At.grownAt l d A Dd
 replace ht8_3 := dh.grownAt ht8_3 d A Dd
 clear hLO4_2 hLO7_1
 replace d := aZ
 refine Zw (.int .i64 e8_3) rfl <| cT <| Zt <| fj rfl eR d rfl (v1 := .int .i64 e8_3) rfl ⟨hB, ?_⟩
 exact ⟨_, _, _, _, _, rfl, dh.nil, .inr (.inr ⟨(hto8_3 M).1, he0 ▸ hno1_3, L7_1, T7_1, hrd7_1, by have := (hto8_3 M).2; rwa [Int.toNat_natCast] at this⟩)⟩
 refine c7 <| aY _ _ <| Zr <| Zy (gD (enc := eE) (encV := Value.bool) fun N bJ au p G => ?_)
 have a0 := ZO au hB
 clear au
 replace hB := Ze hB p
 replace f := p.at f
 replace g := p.at g
 replace d := p.at d
 replace hxo := p.ow hxo
 replace hk4_2 := p.ow hk4_2
 replace hLO4_2 := LO.ext p hLO4_2
 replace i := p.at i
 replace ht7_1 := p.ow ht7_1
 replace hk7_1 := p.ow hk7_1
 replace hLO7_1 := LO.ext p hLO7_1
 replace l := p.at l
 replace ht8_3 := p.ow ht8_3
 replace G : dQ eE Value.bool _ _ (fq []) := G
 refine Zw (.map (some N)) rfl <| cT <| cY fun bK a1 => Zr <| Zw tv7_1 rfl <| Zw tv8_3 rfl <| Zy (eB (v := tv7_1) (v2 := tv8_3) rfl rfl dw fR Dd ht7_1 ht8_3.sl (kg) (by have := Below.size hB; omega) Om Om fun aa bL B o => ?_)
 replace o := dh.app (enc := eb) rfl rfl rfl rfl o
 replace hB := ZG hB B ht7_1
 replace f := At.grownOw f ht7_1 B Dd
 replace g := At.grownOw g ht7_1 B Dd
 replace d := At.grownOw d ht7_1 B Dd
 replace hxo := dh.grownOw hxo ht7_1 B Dd
 replace hk4_2 := dh.grownOw hk4_2 ht7_1 B Dd
 replace i := At.grownOw i ht7_1 B Dd
 replace hk7_1 := dh.grownOw hk7_1 ht7_1 B Dd
 replace l := At.grownOw l ht7_1 B Dd
 replace G := dQ.grownOw G ht7_1 B
 clear hLO4_2 hLO7_1 ht8_3 ht7_1
 refine Zv (dB (v := aa) rfl o.sl dw) <| Zw (.int .i64 0) rfl <| cT <| c9 ?_
 refine dy (σ := (Nat)) [16, 64, 65, 66, 67, 68, 69, 70] (fun j => [(64, .int .i64 (j : Int))]) (fun j W => (Below w.heap.size w W) ∧ (At W aB _ 24) ∧ (At W aD _ 26) ∧ (At W al _ 32) ∧ (dh gK 3 42 W w.heap.size x1_3 _) ∧ (dh encV 1 80 W 0 rv4_2 _) ∧ (At W aK _ 77) ∧ (dh encV 1 80 W 0 rv7_1 _) ∧ (At W aR _ 77) ∧ (dh eb 1 3 W w.heap.size aa _) ∧ (dQ eE Value.bool W N (fq (oz [] (T7_1 ++ X8_3) j))) ∧ (j ≤ (T7_1 ++ X8_3).length) ∧ (True)) (fun j => (T7_1 ++ X8_3).length - j) (0) ⟨rfl, trivial⟩ ⟨hB, f, g, d, hxo, hk4_2, i, hk7_1, l, o, G, (Nat.zero_le _), trivial⟩ ?_
 clear hB f g d hxo hk4_2 i hk7_1 l G o
 rintro j bM I ⟨hB, f, g, d, hxo, hk4_2, i, hk7_1, l, o, hmk, hj, _⟩ bN a2
 have hcl : (T7_1 ++ X8_3).length ≤ 16000 := by rw [List.length_append]; omega
 refine Zr <| Zv (dP rfl rfl) <| cT <| cY fun bO a3 => ZQ rfl (fun a4 => ?_) fun a4 => ?_
 refine c7 <| a3 _ _ <| cY fun bP a5 => c9 <| Zr <| Zv (dM (v := aa) rfl o.sl rfl dw Om Om) <| Zv (dm (v := .int .i64 _) rfl dC (dO.cell o.sl eN 0 Om Om 0 rfl)) <| Zi rfl <| cT <| cZ <| Zw (.map (some N)) rfl <| Zi rfl ?_
 refine gP (dd := none) rfl rfl rfl (fD (enc := eE) (encV := Value.bool) (k := ((T7_1 ++ X8_3).getD j 0)) (v := true) rfl rfl rfl mU gC (fun a => ⟨a, rfl⟩) fM hmk (fun bQ y a6 => ?_))
 replace hB := Zg hB y a0
 replace f := At.grownMap f hmk y
 replace g := At.grownMap g hmk y
 replace d := At.grownMap d hmk y
 replace hxo := dh.grownMap hxo hmk y
 replace hk4_2 := dh.grownMap hk4_2 hmk y
 replace i := At.grownMap i hmk y
 replace hk7_1 := dh.grownMap hk7_1 hmk y
 replace l := At.grownMap l hmk y
 replace o := dh.grownMap o hmk y
 clear y hmk
 replace hmk := a6
 rw [jb] at hmk
 refine cT <| a5 _ _ <| cZ <| Zv (dq rfl rfl Om Om) <| Zi rfl <| cT ?_
 exact a2 _ _ (j + 1) Za ⟨rfl, trivial⟩ ⟨hB, f, g, d, hxo, hk4_2, i, hk7_1, l, o, (by exact hmk), Om, trivial⟩ Zo
 refine dt <| a1 _ _ ?_
 have a7 := Below.slT hB hon
 have a8 := Below.slT hB hmay
 have ab := hB
 replace hB := Below.refl I.heap.size I
 obtain rfl : j = (T7_1 ++ X8_3).length := by omega
 refine Zr <| Zw (.int .i64 s8_3) rfl <| Zv (vh (h0 := rfl) (k0 := rfl) (h1 := rfl) (k1 := rfl) (c0_0 := .int .i64 1) (c1_0 := .int .i64 s8_3)) <| Zy (dp kO rfl fun av bR ac a9 m => ?_)
 have O := ZO ac hB
 have ba : al ≠ av := Nat.ne_of_lt (ac ▸ (Below.atI hB d).lt)
 clear ac
 replace hB := Ze hB a9
 refine Zy (df rfl rfl eR rfl m rfl rfl fun bS bb bc => ?_)
 replace hB := Zg hB bb O
 replace m := bc
 refine cT <| cY fun bT bd => Zr <| Zw x1_3 rfl <| Zv (dB (v := x1_3) rfl ((Below.ow hB hxo)).sl dV) <| Zw (.int .i64 0) rfl <| cT <| c9 ?_
 refine dy (σ := (Nat) × (Value)) [18, 19, 75, 76, 77, 78, 79, 80, 81, 82, 83, 84, 85, 86, 87, 88, 89] (fun (k, v0) => [(75, .int .i64 (k : Int))]) (fun sg W => match sg with | (k, v0) => (Below I.heap.size I W) ∧ (At W av #[v0, .int .i64 1, .int .i64 0, .int .i64 s8_3] 32) ∧ (dh gK 3 42 W I.heap.size v0 (wh (eL S) (oz [] (T7_1 ++ X8_3) (T7_1 ++ X8_3).length) k)) ∧ (k ≤ (eL S).length) ∧ (True)) (fun (k, v0) => (eL S).length - k) ((0, .slice none 0 0)) ⟨rfl, trivial⟩ ⟨hB, m, dh.nil, (Nat.zero_le _), trivial⟩ ?_
 clear hB m
 rintro ⟨k, v0⟩ bU bV ⟨hB, m, ho, hk, _⟩ bW aw
 refine Zr <| Zv (dP rfl rfl) <| cT <| cY fun bX bf => ZQ rfl (fun bg => ?_) fun bg => ?_
 refine c7 <| bf _ _ <| cY fun bY ax => c9 <| Zr <| Zi rfl <| Zv (dM (v := x1_3) rfl ((Below.ow hB hxo)).sl rfl dV Om Om) <| Zv (lM rfl ez (dO.cell ((Below.ow hB hxo)).sl eI ⟨⟨0, 0⟩, 0⟩ Om Om 0 rfl) (dO.cell ((Below.ow hB hxo)).sl eI ⟨⟨0, 0⟩, 0⟩ Om Om 1 rfl) (dO.cell ((Below.ow hB hxo)).sl eI ⟨⟨0, 0⟩, 0⟩ Om Om 2 rfl)) <| Zy (dp kL rfl fun ay bZ P ad z => ?_)
 have bh := ZO P hB
 have b0 := dh.neB (b := ay) (Below.ow hB hxo) (Nat.le_of_eq P.symm)
 have az := dh.neB (b := ay) ho (Nat.le_of_eq P.symm)
 clear P
 replace hB := Ze hB ad
 replace m := ad.at m
 replace ho := ad.ow ho
 refine Zi rfl <| Zy (df rfl rfl ez rfl z rfl rfl fun b1 ae bi => ?_)
 replace hB := Zg hB ae bh
 replace m := At.grownAt m z ae Dd
 replace ho := dh.grownAtNe ho az ae
 replace z := bi
 refine cT <| Zr <| Zw (.map (some N)) rfl <| Zi rfl <| Zv (fN (enc := eE) (encV := Value.bool) (v0 := false) (k := _) rfl rfl mU gC (fun a => ⟨a, rfl⟩) fM oa rfl (Below.mapI hB hmk)) <| cT <| ZQ rfl (fun J => ?_) fun J => ?_
 refine cZ <| Zf rfl lR <| ZL v0 rfl kV m rfl <| Zv (da rfl ez rfl z) <| Zy (fp (u := .agg #[_, _, _]) rfl dV ip rfl Dd Dd fun af b2 K Q bj => ?_)
 have b3 := ZO K hB
 have b4 := dh.neB (b := af) (Below.ow hB hxo) (Nat.le_of_eq K.symm)
 have b5 := dh.neB (b := af) ho (Nat.le_of_eq K.symm)
 have b6 := Zn K z.lt
 clear K
 replace hB := Ze hB Q
 replace m := Q.at m
 replace ho := Q.ow ho
 replace z := Q.at z
 refine Zy (eB (v := v0) (v2 := .slice (some ⟨af, 0, none⟩) 1 1) rfl rfl dV ip Dd ho (fP bj rfl) rfl (by have := Below.size hB; omega) (by have := DR (eL S) (oz [] (T7_1 ++ X8_3) (T7_1 ++ X8_3).length) k; omega) (by have := DR (eL S) (oz [] (T7_1 ++ X8_3) (T7_1 ++ X8_3).length) k; omega) fun aA b7 ag F => ?_)
 replace F := dh.snoc (enc := gK) (x := ((eL S).getD k ⟨⟨0, 0⟩, 0⟩)) rfl rfl rfl rfl F
 replace hB := ZG hB ag ho
 replace m := At.grownOw m ho ag Dd
 replace z := At.grownOwNe z az ag
 clear ho
 refine Zf rfl lR <| Zy (eA (v := aA) rfl rfl kV (dO.one F.sl) m (by simp) fun b8 ah bk => ?_)
 replace hB := Zg hB ah O
 replace z := At.grownAt z m ah Dd
 replace F := dh.grownAt F m ah Dd
 replace m := bk
 replace m : At _ _ #[_, _, _, _] _ := m
 refine cT <| ax _ _ <| cZ <| Zv (dq rfl rfl Om Om) <| Zi rfl <| cT ?_
 exact aw _ _ ((k + 1, aA)) Za ⟨rfl, trivial⟩ ⟨hB, (by exact m), (by first | (rw [← Ln (mX J)]; exact F) | (rw [← Ly (ld J)]; exact F)), Om, trivial⟩ (by show (eL S).length - (k + 1) < (eL S).length - k; omega)
 refine c7 <| ax _ _ <| cZ <| Zv (dq rfl rfl Om Om) <| Zi rfl <| cT ?_
 exact aw _ _ ((k + 1, v0)) Za ⟨rfl, trivial⟩ ⟨hB, (by exact m), (by first | (rw [← Ln (mX J)]; exact ho) | (rw [← Ly (ld J)]; exact ho)), Om, trivial⟩ (by show (eL S).length - (k + 1) < (eL S).length - k; omega)
 refine dt <| bd _ _ ?_
 try clear a7
 try clear a8
 replace f := Below.atI hB f
 replace g := Below.atI hB g
 replace d := Below.atI hB d
 replace hxo := Below.ow hB hxo
 replace hk4_2 := Below.ow hB hk4_2
 replace i := Below.atI hB i
 replace hk7_1 := Below.ow hB hk7_1
 replace l := Below.atI hB l
 replace o := Below.ow hB o
 replace hmk := Below.mapI hB hmk
 have hzs := Nat.le_trans (Nat.le_refl _) (Below.size ab)
 replace O := Nat.le_trans hzs O
 replace ho := dh.mono ho hzs
 replace hB := Below.trans ab (Below.mono hB hzs)
 clear ab hzs
 obtain rfl : k = (eL S).length := by omega
 refine Zr <| Zv (da rfl eR rfl m) <| Zy (df rfl rfl eR rfl d rfl (by exact kK (dh.one ho)) fun b9 r bl => ?_)
 replace f := At.grownAt f d r Dd
 replace g := At.grownAt g d r Dd
 replace hxo := dh.grownAt hxo d r Dd
 replace hk4_2 := dh.grownAt hk4_2 d r Dd
 replace i := At.grownAt i d r Dd
 replace hk7_1 := dh.grownAt hk7_1 d r Dd
 replace l := At.grownAt l d r Dd
 replace o := dh.grownAt o d r Dd
 replace hmk := dQ.grownAt hmk d r
 replace hB := Zg hB r V
 replace m := At.grownNe m (Ne.symm ba) r
 replace ho := dh.grownAt ho d r Dd
 replace d := bl
 refine Zw (.int .i64 0) rfl <| cT <| Zt <| fj rfl eR d rfl (v1 := .int .i64 0) rfl ⟨hB, ?_⟩
 exact ⟨_, _, _, _, _, rfl, ho, .inl ⟨rfl, rfl, aX, hsb8_3, he0 ▸ hno1_3, Js hr hl4 hrd7_1 (hfw8_3 (Decidable.of_not_not M)) (fun c => NH) (vu List.nodup_nil _)⟩⟩
theorem mm (S : Sp) (onV mayV : Value) (p q : Int) (bs be : Nat) (w : World) (hon : dO gr 4 w onV S.on) (hmay : dO gr 4 w mayV S.may) (hr : dJ S = true) (hsp : At w bs #[.int .i64 S.n, onV, mayV] 24) (hbe : At w be #[.int .i64 q] 30) :
    Fn Tryz.prog 20 #[.int .i64 p, .pointer (some ⟨bs, 0, none⟩), .pointer (some ⟨be, 0, none⟩)] w fun v w' => ∃ x, v = .tuple #[.agg #[x, .int .i64 2, .int .i64 q, .int .i64 p], .int .i64 0] ∧ dh gK 3 42 w' w.heap.size x (xh S (kC S)) := by
 refine dr (n := 26) Tryz.func20 rfl rfl (Nat.le_of_ble_eq_true rfl) ?_
 have hB : Below w.heap.size w w := Below.refl _ _
 refine Zr <| Zy (dp kO rfl fun m W3 d h a => ?_)
 have i := ZO d hB
 clear d
 replace hB := Ze hB h
 refine Zw (.int .i64 0) rfl <| cT <| Zr <| Zv (da rfl eT rfl (Below.atI hB hsp)) <| ZC (vs := [.agg #[_, _, _]]) NB (xV S _ _  _ (Below.slT hB hon) (Below.slT hB hmay) ) rfl fun o W8 e f => ?_
 have j := (Below.size hB)
 replace hB := Ze hB e
 replace a := e.at a
 rw [if_pos hr] at f
 obtain ⟨xpl, rfl, hpl⟩ := f
 replace hpl := dh.mono hpl j
 refine Zw (.tuple #[xpl, .int .i64 0]) rfl <| Zv (dF rfl) <| Zv (dG rfl) <| Zw xpl rfl <| Zw (.int .i64 0) rfl <| cT <| Zr <| Zv (da rfl eT rfl (Below.atI hB hsp)) <| Zw xpl rfl <| ZC (vs := [.agg #[_, _, _], xpl]) MD (Aj S _ _ _ (kC S) _ (Below.slT hB hon) (Below.slT hB hmay) hpl.sl (by have := EJ hr; omega) (J0 hr) (by have := (dY.1 hr); omega)) rfl fun r s b g => ?_
 have t := dh.lt2 hpl
 have k := (Below.size hB)
 replace hB := Ze hB b
 replace a := b.at a
 replace hpl := b.ow hpl
 rw [if_pos (E6 hr)] at g
 obtain ⟨xtn, rfl, htn⟩ := g
 replace htn := dh.mono htn k
 refine Zw (.tuple #[xtn, .int .i64 0]) rfl <| Zv (dF rfl) <| Zv (dG rfl) <| Zw xtn rfl <| Zw (.int .i64 0) rfl <| cT <| Zr <| Zw xtn rfl <| Zl rfl jx (Below.atI hB hbe) rfl <| Zi rfl <| Zv (qC (h0 := rfl) (k0 := dO.cells htn.sl) (h1 := rfl) (k1 := rfl) (h2 := rfl) (k2 := rfl) (h3 := rfl) (k3 := rfl) (c0_0 := xtn) (c1_0 := .int .i64 2) (c2_0 := .int .i64 _) (c3_0 := .int .i64 _)) <| Zw (.int .i64 0) rfl <| Zy (df rfl rfl eR rfl a rfl (by exact kK (dh.one htn)) fun u c l => ?_)
 replace hB := Zg hB c i
 replace hpl := dh.grownAt hpl a c Dd
 replace htn := dh.grownAt htn a c Dd
 replace a := l
 refine Zw (.int .i64 0) rfl <| cT <| Zt <| fj rfl eR a rfl (v1 := .int .i64 0) rfl ⟨hB, ?_⟩
 exact ⟨_, rfl, htn⟩
theorem jk (S : Sp) (onV mayV : Value) (b0 b1 : Int) (w : World) (hon : dO gr 4 w onV S.on) (hmay : dO gr 4 w mayV S.may) (hs : dJ S = true → S.n ≤ 4 ∧ S.on.length ≤ 3) :
    Fn Tryz.prog 9 #[.agg #[.int .i64 S.n, onV, mayV], .agg #[.int .i64 b0, .int .i64 b1]] w fun v w' => if dJ S = true ∧ pl b0 b1 then ∃ x how why sp Rr, v = .tuple #[.agg #[x, .int .i64 how, .int .i64 why, .int .i64 sp], .int .i64 0] ∧ dh gK 3 42 w' w.heap.size x Rr ∧ LB b0.toNat b1.toNat S how why sp Rr else v = .tuple #[.agg #[.slice none 0 0, .int .i64 0, .int .i64 0, .int .i64 0], .int .i64 1] := by
 refine dr (n := 56) Tryz.func9 rfl rfl (Nat.le_of_ble_eq_true rfl) ?_
 have hB : Below w.heap.size w w := Below.refl _ _
 refine Zr <| Zy (dW (c := #[_, _, _]) rfl rfl fun m W3 Q Y b => ?_)
 have aC := ZO Q hB
 clear Q
 replace hB := Ze hB Y
 refine Zy (dW (c := #[_, _]) rfl rfl fun aD W6 U V d => ?_)
 have aE := ZO U hB
 clear U
 replace hB := Ze hB V
 replace b := V.at b
 refine Zy (dp kO rfl fun aF W9 W G a => ?_)
 have o := ZO W hB
 clear W
 replace hB := Ze hB G
 replace b := G.at b
 replace d := G.at d
 refine Zw (.int .i64 0) rfl <| cT <| cY fun aG Z => Zr <| Zv (da rfl eT rfl b) <| ZC (vs := [.agg #[_, _, _]]) pp (hU S _ _  _ (Below.slT hB hon) (Below.slT hB hmay) ) rfl fun aH aI D aa => ?_
 replace hB := Ze hB D
 replace b := D.at b
 replace d := D.at d
 replace a := D.at a
 obtain rfl := aa
 refine Zv (fJ rfl) <| ZX rfl (fun H => ?_) fun H => ?_
 refine Zs <| Zs <| Zs <| Zw (.bool true) rfl <| Zw (.bool true) rfl <| Zs <| Zs <| Zs <| Zw (.bool true) rfl <| Zw (.bool true) rfl <| Zs <| Zs <| Zs <| Zw (.bool true) rfl ?_
 refine Zw (.bool true) rfl <| Zs <| Zs <| Zs <| Zw (.bool true) rfl <| cT <| dz rfl ?_
 have hno : ¬ (dJ S = true ∧ pl b0 b1) := fun h => by rw [ja H] at h; exact Bool.noConfusion h.1
 refine Zr <| Zv (je ) <| Zy (df rfl rfl eR rfl a rfl rfl fun aJ I ab => ?_)
 replace hB := Zg hB I o
 replace b := At.grownAt b a I Dd
 replace d := At.grownAt d a I Dd
 replace a := ab
 refine Zw (.int .i64 1) rfl <| cT <| Zt <| fj rfl eR a rfl (v1 := .int .i64 1) rfl ⟨hB, ?_⟩
 first | rw [if_neg hno] | (rw [if_pos ⟨hr, hm⟩]; first | exact ⟨_, _, _, _, _, rfl, k, zL hfo3_2 i⟩ | exact ⟨_, _, _, _, _, rfl, l, sM hfo3_2 j i⟩ | exact ⟨_, _, _, _, _, rfl, e, zi hfo3_2 j⟩)
 refine Zf rfl sd <| Zl rfl dC d rfl <| Zv (dP rfl rfl) <| Zb rfl <| ZX rfl (fun ac => ?_) fun ac => ?_
 refine Zs <| Zs <| Zs <| Zw (.bool true) rfl <| Zw (.bool true) rfl <| Zs <| Zs <| Zs <| Zw (.bool true) rfl <| Zw (.bool true) rfl <| Zs <| Zs <| Zs <| Zw (.bool true) rfl ?_
 refine cT <| dz rfl ?_
 have hno : ¬ (dJ S = true ∧ pl b0 b1) := fun h => by have := h.2; unfold pl at this; omega
 refine Zr <| Zv (je ) <| Zy (df rfl rfl eR rfl a rfl rfl fun aK J ad => ?_)
 replace hB := Zg hB J o
 replace b := At.grownAt b a J Dd
 replace d := At.grownAt d a J Dd
 replace a := ad
 refine Zw (.int .i64 1) rfl <| cT <| Zt <| fj rfl eR a rfl (v1 := .int .i64 1) rfl ⟨hB, ?_⟩
 first | rw [if_neg hno] | (rw [if_pos ⟨hr, hm⟩]; first | exact ⟨_, _, _, _, _, rfl, k, zL hfo3_2 i⟩ | exact ⟨_, _, _, _, _, rfl, l, sM hfo3_2 j i⟩ | exact ⟨_, _, _, _, _, rfl, e, zi hfo3_2 j⟩)
 refine Zf rfl sd <| Zl rfl dC d rfl <| Zv (i4 rfl rfl) <| Zb rfl <| ZX rfl (fun ae => ?_) fun ae => ?_
 refine Zs <| Zs <| Zs <| Zw (.bool true) rfl <| Zw (.bool true) rfl <| Zs <| Zs <| Zs <| Zw (.bool true) rfl <| cT <| dz rfl ?_
 have hno : ¬ (dJ S = true ∧ pl b0 b1) := fun h => by have := h.2; unfold pl at this; omega
 refine Zr <| Zv (je ) <| Zy (df rfl rfl eR rfl a rfl rfl fun aL K af => ?_)
 replace hB := Zg hB K o
 replace b := At.grownAt b a K Dd
 replace d := At.grownAt d a K Dd
 replace a := af
 refine Zw (.int .i64 1) rfl <| cT <| Zt <| fj rfl eR a rfl (v1 := .int .i64 1) rfl ⟨hB, ?_⟩
 first | rw [if_neg hno] | (rw [if_pos ⟨hr, hm⟩]; first | exact ⟨_, _, _, _, _, rfl, k, zL hfo3_2 i⟩ | exact ⟨_, _, _, _, _, rfl, l, sM hfo3_2 j i⟩ | exact ⟨_, _, _, _, _, rfl, e, zi hfo3_2 j⟩)
 refine Zf rfl pD <| Zl rfl dC d rfl <| Zv (dP rfl rfl) <| Zb rfl <| ZX rfl (fun ag => ?_) fun ag => ?_
 refine Zs <| Zs <| Zs <| Zw (.bool true) rfl <| cT <| dz rfl ?_
 have hno : ¬ (dJ S = true ∧ pl b0 b1) := fun h => by have := h.2; unfold pl at this; omega
 refine Zr <| Zv (je ) <| Zy (df rfl rfl eR rfl a rfl rfl fun aM L ah => ?_)
 replace hB := Zg hB L o
 replace b := At.grownAt b a L Dd
 replace d := At.grownAt d a L Dd
 replace a := ah
 refine Zw (.int .i64 1) rfl <| cT <| Zt <| fj rfl eR a rfl (v1 := .int .i64 1) rfl ⟨hB, ?_⟩
 first | rw [if_neg hno] | (rw [if_pos ⟨hr, hm⟩]; first | exact ⟨_, _, _, _, _, rfl, k, zL hfo3_2 i⟩ | exact ⟨_, _, _, _, _, rfl, l, sM hfo3_2 j i⟩ | exact ⟨_, _, _, _, _, rfl, e, zi hfo3_2 j⟩)
 refine Zf rfl pD <| Zl rfl dC d rfl <| Zv (i4 rfl rfl) <| Zb rfl <| cT <| ZQ rfl (fun ai => ?_) fun ai => ?_
 have hno : ¬ (dJ S = true ∧ pl b0 b1) := fun h => by have := h.2; unfold pl at this; omega
 refine Zr <| Zv (je ) <| Zy (df rfl rfl eR rfl a rfl rfl fun aN M aj => ?_)
 replace hB := Zg hB M o
 replace b := At.grownAt b a M Dd
 replace d := At.grownAt d a M Dd
 replace a := aj
 refine Zw (.int .i64 1) rfl <| cT <| Zt <| fj rfl eR a rfl (v1 := .int .i64 1) rfl ⟨hB, ?_⟩
 first | rw [if_neg hno] | (rw [if_pos ⟨hr, hm⟩]; first | exact ⟨_, _, _, _, _, rfl, k, zL hfo3_2 i⟩ | exact ⟨_, _, _, _, _, rfl, l, sM hfo3_2 j i⟩ | exact ⟨_, _, _, _, _, rfl, e, zi hfo3_2 j⟩)
 refine c7 <| Z _ _ ?_
 have hr : dJ S = true := jX H
 have hm : pl b0 b1 := ⟨⟨by omega, by omega⟩, by omega, by omega⟩
 obtain ⟨R, T, rfl, rfl, hbd⟩ := Mp hm
 refine Zr <| Zv (da rfl eT rfl b) <| Zv (da rfl kc rfl d) <| ZC (vs := [.agg #[_, _, _], .agg #[_, _]]) Nw (v5 S _ _ R T _ (Below.slT hB hon) (Below.slT hB hmay) hr hbd.2.1 hbd.2.2 (hs hr).1 (hs hr).2) rfl fun aO aP E ak => ?_
 have al := (Below.size hB)
 replace hB := Ze hB E
 replace b := E.at b
 replace d := E.at d
 replace a := E.at a
 obtain ⟨x3_2, how3_2, sp3_2, e3_2, Rr3_2, rfl, e, hfo3_2⟩ := ak
 replace e := dh.mono e al
 refine Zw (.tuple #[.agg #[x3_2, .int .i64 how3_2, .int .i64 0, .int .i64 sp3_2], .int .i64 e3_2]) rfl <| Zv (dF rfl) <| Zv (dG rfl) <| Zy (dp kO rfl fun aQ aR N C g => ?_)
 have ao := ZO N hB
 have F := Zn N a.lt
 clear N
 replace hB := Ze hB C
 replace b := C.at b
 replace d := C.at d
 replace a := C.at a
 replace e := C.ow e
 refine Zy (dp Ma rfl fun p aS X y f => ?_)
 have ap := ZO X hB
 clear X
 replace hB := Ze hB y
 replace b := y.at b
 replace d := y.at d
 replace a := y.at a
 replace e := y.ow e
 replace g := y.at g
 refine Zy (df rfl rfl eR rfl g rfl (by exact kK (dh.one e)) fun aT z aq => ?_)
 replace hB := Zg hB z ao
 replace b := At.grownAt b g z Dd
 replace d := At.grownAt d g z Dd
 replace a := At.grownNe a F z
 replace e := dh.grownAt e g z Dd
 replace f := At.grownAt f g z Dd
 replace g := aq
 refine Zy (eA (v := .int .i64 e3_2) rfl rfl jx rfl f (by exact Nat.zero_lt_one) fun aU A ar => ?_)
 replace hB := Zg hB A ap
 replace b := At.grownAt b f A Dd
 replace d := At.grownAt d f A Dd
 replace a := At.grownAt a f A Dd
 replace e := dh.grownAt e f A Dd
 replace g := At.grownAt g f A Dd
 replace f := ar
 replace f : At _ _ #[_] _ := f
 refine cT <| Zr <| Zv (gS (vs := #[.pointer (some ⟨m, 0, none⟩), .pointer (some ⟨p, 0, none⟩)]) (by simp only [List.map_toArray, List.map_cons, List.map_nil]; rfl)) <| Zw (.func (.func 20) #[] #[.pointer (some ⟨m, 0, none⟩), .pointer (some ⟨p, 0, none⟩)]) rfl <| cT <| cY fun aV au => Zr <| ZL (.int .i64 e3_2) rfl jx f rfl <| cT <| c9 <| Zr <| Zv (eq rfl rfl) <| Zb rfl <| cT ?_
 refine ZQ rfl (fun j => ?_) fun j => ?_
 refine Zr <| Zv (da rfl eR rfl g) <| Zy (df rfl rfl eR rfl a rfl (by exact kK (dh.one e)) fun aW B av => ?_)
 replace hB := Zg hB B o
 replace b := At.grownAt b a B Dd
 replace d := At.grownAt d a B Dd
 replace e := dh.grownAt e a B Dd
 replace g := At.grownNe g (Ne.symm F) B
 replace f := At.grownAt f a B Dd
 replace a := av
 refine Zw (.int .i64 0) rfl <| cT <| Zt <| fj rfl eR a rfl (v1 := .int .i64 0) rfl ⟨hB, ?_⟩
 first | rw [if_neg hno] | (rw [if_pos ⟨hr, hm⟩]; first | exact ⟨_, _, _, _, _, rfl, k, zL hfo3_2 i⟩ | exact ⟨_, _, _, _, _, rfl, l, sM hfo3_2 j i⟩ | exact ⟨_, _, _, _, _, rfl, e, zi hfo3_2 j⟩)
 refine Zr <| Zv (eq rfl rfl) <| Zb rfl <| cT <| ZQ rfl (fun i => ?_) fun i => ?_
 have O := Below.slT hB hon
 have P := Below.slT hB hmay
 refine Zr <| Zw (.func (.func 20) #[] #[.pointer (some ⟨m, 0, none⟩), .pointer (some ⟨p, 0, none⟩)]) rfl <| Zf rfl pD <| Zl rfl dC d rfl ?_
 refine pR (dd := some 49) rfl rfl rfl (jG (q := 20) (first := #[]) (cap := #[.pointer (some ⟨m, 0, none⟩), .pointer (some ⟨p, 0, none⟩)]) (vs := #[.int .i64 _, .pointer (some ⟨m, 0, none⟩), .pointer (some ⟨p, 0, none⟩)]) rfl Gz (by simp only [List.map_toArray, List.map_cons, List.map_nil, List.append_toArray, List.nil_append, List.cons_append]; rfl)) (mm S _ _ _ _ _ _ _ O P hr b f) (fun aX aY r aw => ?_)
 have ax := (Below.size hB)
 replace hB := Ze hB r
 replace b := r.at b
 replace d := r.at d
 replace a := r.at a
 replace e := r.ow e
 replace g := r.at g
 replace f := r.at f
 obtain ⟨x9_3, rfl, k⟩ := aw
 replace k := dh.mono k ax
 refine Zv (dF rfl) <| Zv (dG rfl) <| Zy (df rfl rfl eR rfl a rfl (by exact kK (dh.one k)) fun aZ s ay => ?_)
 replace hB := Zg hB s o
 replace b := At.grownAt b a s Dd
 replace d := At.grownAt d a s Dd
 replace e := dh.grownAt e a s Dd
 replace g := At.grownNe g (Ne.symm F) s
 replace f := At.grownAt f a s Dd
 replace k := dh.grownAt k a s Dd
 replace a := ay
 refine Zw (.int .i64 0) rfl <| cT <| Zt <| fj rfl eR a rfl (v1 := .int .i64 0) rfl ⟨hB, ?_⟩
 first | rw [if_neg hno] | (rw [if_pos ⟨hr, hm⟩]; first | exact ⟨_, _, _, _, _, rfl, k, zL hfo3_2 i⟩ | exact ⟨_, _, _, _, _, rfl, l, sM hfo3_2 j i⟩ | exact ⟨_, _, _, _, _, rfl, e, zi hfo3_2 j⟩)
 refine c7 <| au _ _ ?_
 have O := Below.slT hB hon
 have P := Below.slT hB hmay
 refine Zr <| Zw (.func (.func 20) #[] #[.pointer (some ⟨m, 0, none⟩), .pointer (some ⟨p, 0, none⟩)]) rfl ?_
 refine pR (dd := some 53) rfl rfl rfl (jG (q := 20) (first := #[]) (cap := #[.pointer (some ⟨m, 0, none⟩), .pointer (some ⟨p, 0, none⟩)]) (vs := #[.int .i64 0, .pointer (some ⟨m, 0, none⟩), .pointer (some ⟨p, 0, none⟩)]) rfl Gz (by simp only [List.map_toArray, List.map_cons, List.map_nil, List.append_toArray, List.nil_append, List.cons_append]; rfl)) (mm S _ _ _ _ _ _ _ O P hr b f) (fun a0 a1 t az => ?_)
 have aA := (Below.size hB)
 replace hB := Ze hB t
 replace b := t.at b
 replace d := t.at d
 replace a := t.at a
 replace e := t.ow e
 replace g := t.at g
 replace f := t.at f
 obtain ⟨x10_1, rfl, l⟩ := az
 replace l := dh.mono l aA
 refine Zv (dF rfl) <| Zv (dG rfl) <| Zy (df rfl rfl eR rfl a rfl (by exact kK (dh.one l)) fun a2 u aB => ?_)
 replace hB := Zg hB u o
 replace b := At.grownAt b a u Dd
 replace d := At.grownAt d a u Dd
 replace e := dh.grownAt e a u Dd
 replace g := At.grownNe g (Ne.symm F) u
 replace f := At.grownAt f a u Dd
 replace l := dh.grownAt l a u Dd
 replace a := aB
 refine Zw (.int .i64 0) rfl <| cT <| Zt <| fj rfl eR a rfl (v1 := .int .i64 0) rfl ⟨hB, ?_⟩
 first | rw [if_neg hno] | (rw [if_pos ⟨hr, hm⟩]; first | exact ⟨_, _, _, _, _, rfl, k, zL hfo3_2 i⟩ | exact ⟨_, _, _, _, _, rfl, l, sM hfo3_2 j i⟩ | exact ⟨_, _, _, _, _, rfl, e, zi hfo3_2 j⟩)
theorem uj (S : Sp) (onV mayV : Value) (w : World) (hon : dO gr 4 w onV S.on) (hmay : dO gr 4 w mayV S.may) :
    Fn Tryz.prog 16 #[.agg #[.int .i64 S.n, onV, mayV]] w fun v w' => v = .tuple #[.agg #[.int .i64 (if dJ S = true then 20000 else 0), .int .i64 (if dJ S = true then 1000000 else 0)], .int .i64 (if dJ S = true then 0 else 1)] := by
 refine dr (n := 9) Tryz.func16 rfl rfl (Nat.le_of_ble_eq_true rfl) ?_
 have hB : Below w.heap.size w w := Below.refl _ _
 refine Zr <| Zy (dW (c := #[_, _, _]) rfl rfl fun r W3 f l b => ?_)
 have s := ZO f hB
 clear f
 replace hB := Ze hB l
 refine Zy (dp y9 rfl fun t W6 g h a => ?_)
 have i := ZO g hB
 clear g
 replace hB := Ze hB h
 replace b := h.at b
 refine Zw (.int .i64 0) rfl <| cT <| cY fun K9 m => Zr <| Zv (da rfl eT rfl b) <| ZC (vs := [.agg #[_, _, _]]) pp (hU S _ _  _ (Below.slT hB hon) (Below.slT hB hmay) ) rfl fun u x d o => ?_
 replace hB := Ze hB d
 replace b := d.at b
 replace a := d.at a
 obtain rfl := o
 refine Zv (fJ rfl) <| cT <| ZQ rfl (fun e => ?_) fun e => ?_
 refine Zr <| Zv (oO ) <| Zy (df rfl rfl kc rfl a rfl rfl fun y j p => ?_)
 replace hB := Zg hB j i
 replace b := At.grownAt b a j Dd
 replace a := p
 refine Zw (.int .i64 1) rfl <| cT <| Zt <| fj rfl kc a rfl (v1 := .int .i64 1) rfl ⟨hB, ?_⟩
 rw [ja e]; rfl
 refine c7 <| m _ _ <| Zr <| Zv (kn (h0 := rfl) (k0 := rfl) (h1 := rfl) (k1 := rfl) (c0_0 := .int .i64 20000) (c1_0 := .int .i64 1000000)) <| Zy (df rfl rfl kc rfl a rfl rfl fun z k q => ?_)
 replace hB := Zg hB k i
 replace b := At.grownAt b a k Dd
 replace a := q
 refine Zw (.int .i64 0) rfl <| cT <| Zt <| fj rfl kc a rfl (v1 := .int .i64 0) rfl ⟨hB, ?_⟩
 rw [jX e]; rfl
end
section
open Go Go.RowKit
section
variable {S : Sp}
theorem En {R : Nat} {e : Int} (h : JW R S e) (hb : (2 ^ S.may.length - 1) * bO S < R) : e = 0 := by
 obtain ⟨ns', id, h1, _, _⟩ := h
 obtain ⟨c, hc, s⟩ := h1.1.st
 exact (s.ok (by rw [List.length_nil]; omega)).1
theorem Pq : ∀ n m : Nat, n ≤ 3 → m ≤ 2 → (2 ^ m - 1) * (2 ^ m * (tC n + 2 * n * 3 ^ n) + 24 + qL (16 + m) * 3 ^ n + (16 + m) * 3 ^ n) < 20000 := by
 intro n m hn hm
 have hn' : n = 0 ∨ n = 1 ∨ n = 2 ∨ n = 3 := by omega
 have hm' : m = 0 ∨ m = 1 ∨ m = 2 := by omega
 rcases hn' with rfl | rfl | rfl | rfl <;> rcases hm' with rfl | rfl | rfl <;> decide +kernel
theorem H3 (hn : S.n ≤ 3) (hm : S.may.length ≤ 2) : (2 ^ S.may.length - 1) * bO S < 20000 := Pq (nN S) S.may.length (by unfold nN; omega) hm
theorem HP (hr : dJ S = true) (hne : ∃ r, r ∈ eL S) {e : Int} (h : JW 0 S e) : ¬ e = 0 := fun he => by
 obtain ⟨ns', id, h1, h2, _⟩ := h
 obtain ⟨r, hr2⟩ := hne
 have hn : ns' = [] := List.eq_nil_of_length_eq_zero (by omega)
 have hM := h1.1.m he
 have hv := h1.1.v
 have hx : E5 S (2 ^ S.may.length) (AL r) := (zU hr).2 ⟨r, hr2, rfl⟩
 rw [← hM] at hx
 subst hn
 obtain ⟨o, o1, o2, y, _, e2⟩ := (zU hr).2 ⟨r, hr2, rfl⟩
 rw [List.length_nil] at hv
 have h01 : id = 0 ∨ id = 1 := by omega
 rcases h01 with rfl | rfl
 ·exact Fy _ _ hx
 ·have hx' : AL r ∈ dN [] 1 := hx
  rw [l7] at hx'
  have := List.mem_singleton.1 hx'
  omega
theorem C9 (hl : (eL S).length ≤ 4000) {T : Nat} (h : NE S T) : T + 1 < 2 ^ (eL S).length := by
 obtain ⟨L, ks, h1, h2⟩ := h
 have h3 := rB h1.sub
 have h4 := Ox (jK (S := S) hl)
 exact Nat.lt_of_lt_of_le h2 (Nat.pow_le_pow_right (by decide) (Nat.le_trans h3 h4))
end
def KQ : Sp := ⟨2, [14], [14]⟩
theorem oP : dJ KQ = true := by decide +kernel
theorem uU : (eL KQ).length = 2 := by decide +kernel
theorem Jr : (xh KQ (kC KQ)).length = 2 := by decide +kernel
theorem Nm : ko KQ (eL KQ) = true := DD oP
theorem FV : ko KQ [] = false ∧ ko KQ [(eL KQ).getD 0 ⟨⟨0, 0⟩, 0⟩] = false ∧ ko KQ [(eL KQ).getD 1 ⟨⟨0, 0⟩, 0⟩] = false := by decide +kernel
theorem NM {Rr : List Rw} (h : ER KQ Rr) : Rr.length = 2 := by
 have h1 := h.min _ Nm
 rw [uU] at h1
 have hc := h.cov
 have hs := h.sub
 match Rr, h1, hc, hs with
 | [], _, hc, _ => rw [FV.1] at hc; cases hc
 | [r], _, hc, hs =>
  have hm : r ∈ eL KQ := hs.subset (List.mem_singleton.2 rfl)
  obtain ⟨j, hj, rfl⟩ := fk (d := (⟨⟨0, 0⟩, 0⟩ : Rw)) hm
  rw [uU] at hj
  have : j = 0 ∨ j = 1 := by omega
  rcases this with rfl | rfl
  ·rw [FV.2.1] at hc; cases hc
  ·rw [FV.2.2] at hc; cases hc
 | [_, _], _, _, _ => rfl
 | _ :: _ :: _ :: _, h1, _, _ => simp only [List.length_cons] at h1; omega
theorem Pn {how why sp : Int} {Rr : List Rw} (h : LB 20000 1000000 KQ how why sp Rr) : how = 1 ∧ why = 0 ∧ Rr.length = 2 := by
 rcases h with ⟨h1, h2, _, _, _, h3⟩ | ⟨_, _, ⟨_, _, h⟩ | ⟨_, _, _, h⟩⟩
 ·exact ⟨h1, h2, NM h3⟩
 ·exact absurd (En h (H3 (by decide) (by decide))) (by decide)
 ·have := C9 (by rw [uU]; decide) h
  rw [uU] at this
  omega
theorem Pv {how why sp : Int} {Rr : List Rw} (h : LB 0 0 KQ how why sp Rr) : how = 2 ∧ why = 5 ∧ Rr.length = 2 := by
 have hne : ∃ r, r ∈ eL KQ := ⟨_, dS (d := (⟨⟨0, 0⟩, 0⟩ : Rw)) (i := 0) (by rw [uU]; decide)⟩
 rcases h with ⟨_, _, _, _, h, _⟩ | ⟨h1, h2, ⟨h3, _, _⟩ | ⟨_, _, h, _⟩⟩
 ·exact absurd rfl (HP oP hne h)
 ·exact ⟨h1, h3, by rw [h2]; exact Jr⟩
 ·exact absurd rfl (HP oP hne h)
section
variable {S : Sp} {b0 b1 : Int}
end
end
section
open Go Go.RowKit
theorem HZ : ∀ n : Nat, n < 4 → ∀ s : Nat, s < 2 ^ 2 ^ n → (ex s (n : Int)).length ≤ 6 := by decide +kernel
section
variable {S : Sp}
theorem Fa (o : Nat) : fQ S o < 2 ^ 2 ^ S.n.toNat := Nat.lt_pow_two_of_testBit _ fun i hi => by
 cases h : (fQ S o).testBit i with
 | false => rfl
 | true => have := ((ie _).1 h).1; omega
theorem I6 (h0 : 0 ≤ S.n) (h3 : S.n ≤ 3) (o : Nat) : (xu S o).length ≤ 6 := by
 have h := HZ S.n.toNat (by omega) _ (Fa (S := S) o)
 rw [Int.toNat_of_nonneg h0] at h
 exact Nat.le_trans (nT S o _) h
theorem Dk (h0 : 0 ≤ S.n) (h3 : S.n ≤ 3) : ∀ o, (i5 S (o + 1)).length ≤ 6 * o
 | 0 => by simp [i5]
 | o + 1 => by
  have h1 := Dk h0 h3 o
  have h2 := I6 h0 h3 (o + 1)
  rw [← ul (by omega), List.length_append]
  omega
theorem Ky (hr : dJ S = true) (h3 : S.n ≤ 3) (h2 : S.may.length ≤ 2) : (eL S).length ≤ 18 := by
 obtain ⟨h0, _⟩ := dY.1 hr
 have hp : 2 ^ S.may.length ≤ 2 ^ 2 := Nat.pow_le_pow_right (by decide) h2
 have hp0 := Nat.two_pow_pos S.may.length
 obtain ⟨q, hq⟩ : ∃ q, 2 ^ S.may.length = q + 1 := ⟨2 ^ S.may.length - 1, by omega⟩
 have h := Dk h0 h3 q
 rw [← hq] at h
 exact Nat.le_trans h (by omega)
theorem GY (hr : dJ S = true) (h3 : S.n ≤ 3) (h2 : S.may.length ≤ 2) {how why sp : Int} {Rr : List Rw} (h : LB 20000 1000000 S how why sp Rr) : how = 1 ∧ why = 0 ∧ 0 ≤ sp ∧ sp ≤ 1000000 ∧ ER S Rr := by
 rcases h with ⟨h1, h2, h3, h4, _, h5⟩ | ⟨_, _, ⟨_, _, h⟩ | ⟨_, _, _, h⟩⟩
 ·exact ⟨h1, h2, h3, h4, h5⟩
 ·exact absurd (En h (H3 h3 h2)) (by decide)
 ·have hl := Ky hr h3 h2
  have := C9 (by omega) h
  have hp : 2 ^ (eL S).length ≤ 2 ^ 18 := Nat.pow_le_pow_right (by decide) hl
  omega
end
section
variable {S : Sp} {l : List Rw}
end
section
variable {S : Sp} {b0 b1 how why sp : Int} {R T : Nat} {Rr : List Rw}
theorem Hj (h : LB R T S how why sp Rr) (h1 : how = 1) : ER S Rr := by
 rcases h with h | h
 ·exact h.2.2.2.2.2
 ·have := h.1; omega
end
section
variable {l R : List Rw} {i : Nat}
end
section
variable {P : Program} {f : Nat → Value} {w : World} {d : Option Nat} {ty : TypeId} {ps : String} {af : Array Edge} {g : Option (Nat × Bool)} {x y : Operand} {t t2 : TypeId}
end
end
section
open Go Go.RowKit
theorem MP : dH Tryz.prog 15 = true := by kernel_rfl
theorem Mg : dH Tryz.prog 10 = true := by kernel_rfl
theorem q8 {f : Nat → Value} {w : World} {d : Option Nat} {ty : TypeId} {ps : String} {af : Array Edge} {g : Option (Nat × Bool)} {x0 : Operand} {c0_0 : Value} (h0 : dK f x0 = c0_0) (k0 : c0_0.cells = #[c0_0]) :
    (execOp (dK f) ⟨d, .build 49 #[(0, x0)], ty, ps, af, g⟩).run Tryz.prog w = .ok (.value (.agg #[c0_0, .int .u64 0, .int .u64 0, .int .u64 0])) w := by
  obtain ⟨i0, hi0, hz0⟩ := Option.bind_eq_some_iff.1 (show (Tryz.prog.info? 49).bind (·.zero) = _ from eJ)
  obtain ⟨j47, hj47, hs47⟩ := Option.map_eq_some_iff.1 xt
  simp [execOp, h0, k0, Instr.build, zeroValue, typeInfo, sizeOf, hi0, hz0, run_underlying Tryz.underlying49, Instr.fill, eW, hj47, hs47]
theorem Gp : eH Tryz.prog 24 = some (.agg #[.int .i64 0, .slice none 0 0, .slice none 0 0]) := by kernel_rfl
theorem EV : (Tryz.prog.info? 22).map (·.size) = some 1 := by kernel_rfl
theorem sG {f : Nat → Value} {w : World} {d : Option Nat} {ty : TypeId} {ps : String} {af : Array Edge} {g : Option (Nat × Bool)} {x0 x1 x2 : Operand} {c0_0 c1_0 c2_0 : Value} (h0 : dK f x0 = c0_0) (k0 : c0_0.cells = #[c0_0]) (h1 : dK f x1 = c1_0) (k1 : c1_0.cells = #[c1_0]) (h2 : dK f x2 = c2_0) (k2 : c2_0.cells = #[c2_0]) :
    (execOp (dK f) ⟨d, .build 24 #[(0, x0), (1, x1), (2, x2)], ty, ps, af, g⟩).run Tryz.prog w = .ok (.value (.agg #[c0_0, c1_0, c2_0])) w := by
  obtain ⟨i0, hi0, hz0⟩ := Option.bind_eq_some_iff.1 (show (Tryz.prog.info? 24).bind (·.zero) = _ from Gp)
  obtain ⟨j3, hj3, hs3⟩ := Option.map_eq_some_iff.1 ia
  obtain ⟨j22, hj22, hs22⟩ := Option.map_eq_some_iff.1 EV
  simp [execOp, h0, k0, h1, k1, h2, k2, Instr.build, zeroValue, typeInfo, sizeOf, hi0, hz0, run_underlying Tryz.underlying24, Instr.fill, eW, hj3, hs3, hj22, hs22]
theorem Db : dH Tryz.prog 9 = true := by kernel_rfl
theorem m7 : fw Tryz.prog 32 1 = some 1 := by kernel_rfl
theorem wO : fw Tryz.prog 32 2 = some 2 := by kernel_rfl
theorem vm : dH Tryz.prog 8 = true := by kernel_rfl
theorem L5 : dH Tryz.prog 16 = true := by kernel_rfl
theorem yI {f : Nat → Value} {w : World} {d : Option Nat} {ty t2 : TypeId} {ps : String} {af : Array Edge} {g : Option (Nat × Bool)} {x y : Operand} {a0 a1 b0 b1 : Int} (hx : dK f x = .agg #[.int .i64 a0, .int .i64 a1]) (hy : dK f y = .agg #[.int .i64 b0, .int .i64 b1]) :
    (execOp (dK f) ⟨d, .binOp .eql 26 x y t2, ty, ps, af, g⟩).run Tryz.prog w = .ok (.value (.bool (decide ((a0 = b0 ∧ a1 = b1))))) w := by
  have hg : Tryz.prog.eqGuardType Tryz.prog.depth 26 = false := by kernel_rfl
  have hp26 : Tryz.prog.stoodInHeld 26 = false := by kernel_rfl
  have hu26 : Tryz.prog.underlying 26 = some (.struct (Tryz.prog.fieldsOf 26)) := by kernel_rfl
  simp only [execOp, hx, hy, Sem.run_bind, run_eqGuard_agg _ _ _ _ _ _ _ hg, Result.andThen_ok, run_eql_struct, run_equalIn_agg _ 9999 26 _ _ hu26 hp26]
  simp only [Program.fieldsOf, Tryz.underlying26]
  simp [Op.eqFields, part, isAgg, run_equalIn_int _ 9998 3 _ _ _ _ Tryz.underlying3, run_underlying Tryz.underlying3]
  by_cases q0 : a0 = b0 <;> by_cases q1 : a1 = b1 <;> simp [q0, q1]
theorem nF (S : Sp) (onV mayV : Value) (w : World) (hon : dO gr 4 w onV S.on) (hmay : dO gr 4 w mayV S.may) :
    Fn Tryz.prog 15 #[.agg #[.int .i64 S.n, onV, mayV]] w fun v w' => v = .bool (uy S) := by
 refine dr (n := 13) Tryz.func15 rfl rfl (Nat.le_of_ble_eq_true rfl) ?_
 have hB : Below w.heap.size w w := Below.refl _ _
 refine Zr <| Zy (dW (c := #[_, _, _]) rfl rfl fun f W3 b e d => ?_)
 have g := ZO b hB
 clear b
 replace hB := Ze hB e
 refine Zw (.bool false) rfl <| cT <| Zr <| Zf rfl f4 <| ZL onV rfl eK d rfl <| Zv (dB (v := onV) rfl (Below.slT hB hon) ej) <| Zv (i4 rfl rfl) <| ZX rfl (fun a => ?_) fun a => ?_
 refine Zs <| Zs <| Zs <| Zs <| Zw (.bool true) rfl <| Zw (.bool true) rfl <| cT <| Zt <| dL (v := .bool true) rfl ⟨hB, ?_⟩
 first | exact congrArg Value.bool (Eg a) | exact congrArg Value.bool (Dt a)
 refine Zf rfl f7 <| ZL mayV rfl eK d rfl <| Zv (dB (v := mayV) rfl (Below.slT hB hmay) ej) <| Zv (i4 rfl rfl) <| Zb rfl <| Zb rfl <| cT <| Zt <| dL (v := .bool _) rfl ⟨hB, ?_⟩
 first | exact congrArg Value.bool (Eg a) | exact congrArg Value.bool (Dt a)
set_option maxRecDepth 10000 in
theorem ff  (w : World) :
    Fn Tryz.prog 8 #[] w fun v w' => v = .bool true := by
 refine dr (n := 61) Tryz.func8 rfl rfl (Nat.le_of_ble_eq_true rfl) ?_
 have hB : Below w.heap.size w w := Below.refl _ _
 refine Zr <| Zw (.bool false) rfl <| cT <| Zr <| Zv (v := eM 14) (q8 (h0 := rfl) (k0 := rfl) (c0_0 := .int .u64 14)) <| Zy (fp (u := .agg #[_, _, _, _]) rfl ej tN rfl Dd Dd fun K W5 E L o => ?_)
 have M := ZO E hB
 clear E
 replace hB := Ze hB L
 refine Zv (v := eM 14) (q8 (h0 := rfl) (k0 := rfl) (c0_0 := .int .u64 14)) <| Zy (fp (u := .agg #[_, _, _, _]) rfl ej tN rfl Dd Dd fun N W8 q F O => ?_)
 have P := ZO q hB
 have Z := Zn q o.lt
 clear q
 replace hB := Ze hB F
 replace o := F.at o
 have b := iu (enc := gr) (a := 14) o rfl rfl M
 have c := iu (enc := gr) (a := 14) O rfl rfl P
 refine Zv (sG (h0 := rfl) (k0 := rfl) (h1 := rfl) (k1 := rfl) (h2 := rfl) (k2 := rfl) (c0_0 := .int .i64 2) (c1_0 := .slice (some ⟨K, 0, none⟩) 1 1) (c2_0 := .slice (some ⟨N, 0, none⟩) 1 1)) <| Zy (dp Gp rfl fun aa ab G r d => ?_)
 have Q := ZO G hB
 clear G
 replace hB := Ze hB r
 replace b := r.ow b
 replace c := r.ow c
 refine Zy (df rfl rfl eT rfl d rfl rfl fun ac s R => ?_)
 replace hB := Zg hB s Q
 replace b := dh.grownAt b d s Dd
 replace c := dh.grownAt c d s Dd
 replace d := R
 refine cT <| Zr <| Zv (da rfl eT rfl d) <| Zv (kn (h0 := rfl) (k0 := rfl) (h1 := rfl) (k1 := rfl) (c0_0 := .int .i64 20000) (c1_0 := .int .i64 1000000)) <| ZC (vs := [.agg #[_, _, _], .agg #[_, _]]) Db (jk KQ _ _ 20000 1000000 _ b.sl c.sl (fun _ => by decide)) rfl fun ad ae p H => ?_
 have S := (Below.size hB)
 replace hB := Ze hB p
 replace b := p.ow b
 replace c := p.ow c
 replace d := p.at d
 rw [if_pos (show dJ KQ = true ∧ pl _ _ from ⟨oP, by decide⟩)] at H
 obtain ⟨x2_2, how2_2, why2_2, sp2_2, Rr2_2, rfl, f, hmo2_2⟩ := H
 replace f := dh.mono f S
 obtain ⟨rfl, rfl, hlen2_2⟩ := Pn hmo2_2
 refine Zw (.tuple #[.agg #[x2_2, .int .i64 _, .int .i64 _, .int .i64 _], .int .i64 0]) rfl <| Zv (dF rfl) <| Zv (dG rfl) <| Zy (dp kO rfl fun af ag I l e => ?_)
 have T := ZO I hB
 clear I
 replace hB := Ze hB l
 replace b := l.ow b
 replace c := l.ow c
 replace d := l.at d
 replace f := l.ow f
 refine Zy (df rfl rfl eR rfl e rfl (by exact kK (dh.one f)) fun ah m U => ?_)
 replace hB := Zg hB m T
 replace b := dh.grownAt b e m Dd
 replace c := dh.grownAt c e m Dd
 replace d := At.grownAt d e m Dd
 replace f := dh.grownAt f e m Dd
 replace e := U
 refine Zw (.int .i64 0) rfl <| cT <| Zr <| Zv (da rfl eT rfl d) <| Zv (oO ) <| ZC (vs := [.agg #[_, _, _], .agg #[_, _]]) Db (jk KQ _ _ 0 0 _ b.sl c.sl (fun _ => by decide)) rfl fun ai aj k J => ?_
 have V := (Below.size hB)
 replace hB := Ze hB k
 replace b := k.ow b
 replace c := k.ow c
 replace d := k.at d
 replace f := k.ow f
 replace e := k.at e
 rw [if_pos (show dJ KQ = true ∧ pl _ _ from ⟨oP, by decide⟩)] at J
 obtain ⟨x3_2, how3_2, why3_2, sp3_2, Rr3_2, rfl, h, hmo3_2⟩ := J
 replace h := dh.mono h V
 obtain ⟨rfl, rfl, hlen3_2⟩ := Pv hmo3_2
 refine Zw (.tuple #[.agg #[x3_2, .int .i64 _, .int .i64 _, .int .i64 _], .int .i64 0]) rfl <| Zv (dF rfl) <| Zv (dG rfl) <| Zy (dp kO rfl fun ak al t i g => ?_)
 have W := ZO t hB
 have X := Zn t e.lt
 clear t
 replace hB := Ze hB i
 replace b := i.ow b
 replace c := i.ow c
 replace d := i.at d
 replace f := i.ow f
 replace e := i.at e
 replace h := i.ow h
 refine Zy (df rfl rfl eR rfl g rfl (by exact kK (dh.one h)) fun ao j Y => ?_)
 replace hB := Zg hB j W
 replace b := dh.grownAt b g j Dd
 replace c := dh.grownAt c g j Dd
 replace d := At.grownAt d g j Dd
 replace f := dh.grownAt f g j Dd
 replace e := At.grownNe e X j
 replace h := dh.grownAt h g j Dd
 replace g := Y
 refine Zw (.int .i64 0) rfl <| cT <| Zr <| Zf rfl lR <| ZL x2_2 rfl kV e rfl <| Zv (dB (v := x2_2) rfl f.sl dV) <| Zv (eq rfl rfl) <| ZX rfl (fun x => ?_) fun x => ?_
 refine Zf rfl m7 <| Zl rfl dC e rfl <| Zv (eq rfl rfl) <| Zb rfl <| ZX rfl (fun y => ?_) fun y => ?_
 refine Zf rfl wO <| Zl rfl jx e rfl <| Zv (eq rfl rfl) <| Zb rfl <| ZX rfl (fun z => ?_) fun z => ?_
 refine Zw (.int .i64 0) rfl <| Zv (eq rfl rfl) <| Zb rfl <| ZX rfl (fun A => ?_) fun A => ?_
 refine Zf rfl lR <| ZL x3_2 rfl kV g rfl <| Zv (dB (v := x3_2) rfl h.sl dV) <| Zv (eq rfl rfl) <| Zb rfl <| ZX rfl (fun B => ?_) fun B => ?_
 refine Zf rfl m7 <| Zl rfl dC g rfl <| Zv (eq rfl rfl) <| Zb rfl <| ZX rfl (fun C => ?_) fun C => ?_
 refine Zf rfl wO <| Zl rfl jx g rfl <| Zv (eq rfl rfl) <| Zb rfl <| ZX rfl (fun D => ?_) fun D => ?_
 refine Zw (.int .i64 0) rfl <| Zv (eq rfl rfl) <| Zb rfl <| Zb rfl <| cT <| Zt <| dL (v := .bool _) rfl ⟨hB, ?_⟩
 rfl
 first | exact absurd rfl D | exact absurd (by omega) D
 first | exact absurd rfl C | exact absurd (by omega) C
 first | exact absurd rfl B | exact absurd (by omega) B
 first | exact absurd rfl A | exact absurd (by omega) A
 first | exact absurd rfl z | exact absurd (by omega) z
 first | exact absurd rfl y | exact absurd (by omega) y
 first | exact absurd rfl x | exact absurd (by omega) x
set_option maxRecDepth 20000 in
theorem lk (S : Sp) (onV mayV : Value) (b0 b1 : Int) (w : World) (hon : dO gr 4 w onV S.on) (hmay : dO gr 4 w mayV S.may) :
    Fn Tryz.prog 6 #[.agg #[.int .i64 S.n, onV, mayV], .agg #[.int .i64 b0, .int .i64 b1]] w fun v w' => v = .bool true := by
 refine dr (n := 93) Tryz.func6 rfl rfl (Nat.le_of_ble_eq_true rfl) ?_
 have hB : Below w.heap.size w w := Below.refl _ _
 refine Zr <| Zy (dW (c := #[_, _, _]) rfl rfl fun aJ W3 Y af a => ?_)
 have aK := ZO Y hB
 clear Y
 replace hB := Ze hB af
 refine Zy (dW (c := #[_, _]) rfl rfl fun aL W6 Z aa b => ?_)
 have aM := ZO Z hB
 clear Z
 replace hB := Ze hB aa
 replace a := aa.at a
 refine Zw (.bool false) rfl <| cT <| cY fun K9 ag => Zr <| Zv (da rfl eT rfl a) <| ZC (vs := [.agg #[_, _, _]]) MP (nF S _ _  _ (Below.slT hB hon) (Below.slT hB hmay) ) rfl fun aN aO J ah => ?_
 replace hB := Ze hB J
 replace a := J.at a
 replace b := J.at b
 obtain rfl := ah
 refine cT <| ZQ rfl (fun ai => ?_) fun ai => ?_
 refine Zr <| ZC vm (ff _) rfl fun aP aQ K aj => ?_
 replace hB := Ze hB K
 replace a := K.at a
 replace b := K.at b
 obtain rfl := aj
 refine Zb rfl <| cT <| Zt <| dL (v := .bool _) rfl ⟨hB, ?_⟩
 rfl
 refine c7 <| ag _ _ <| Zr <| Zv (da rfl eT rfl a) <| ZC (vs := [.agg #[_, _, _]]) L5 (uj S _ _  _ (Below.slT hB hon) (Below.slT hB hmay) ) rfl fun aR aS L ak => ?_
 replace hB := Ze hB L
 replace a := L.at a
 replace b := L.at b
 obtain rfl := ak
 refine Zw (.tuple #[.agg #[.int .i64 _, .int .i64 _], .int .i64 _]) rfl <| Zv (dF rfl) <| Zv (dG rfl) <| Zy (dp y9 rfl fun aT aU M N d => ?_)
 have al := ZO M hB
 have ao := Zn M b.lt
 clear M
 replace hB := Ze hB N
 replace a := N.at a
 replace b := N.at b
 refine Zy (df rfl rfl kc rfl d rfl rfl fun aV O ap => ?_)
 replace hB := Zg hB O al
 replace a := At.grownAt a d O Dd
 replace b := At.grownNe b ao O
 replace d := ap
 refine Zi rfl <| cT <| cY fun aW aq => Zr <| Zv (da rfl eT rfl a) <| ZC (vs := [.agg #[_, _, _]]) Mg (nM S _ _  _ (Below.slT hB hon) (Below.slT hB hmay) ) rfl fun aX aY C ar => ?_
 replace hB := Ze hB C
 replace a := C.at a
 replace b := C.at b
 replace d := C.at d
 obtain rfl := ar
 refine Zv (fJ rfl) <| cT <| ZQ rfl (fun D => ?_) fun D => ?_
 refine Zr <| Zv (da rfl kc rfl d) <| Zv (oO ) <| Zv (yI rfl rfl) <| ZX rfl (fun P => ?_) fun P => ?_
 refine Zi rfl <| Zv (eq rfl rfl) <| Zb rfl <| ZX rfl (fun Q => ?_) fun Q => ?_
 refine ZC vm (ff _) rfl fun aZ a0 E au => ?_
 replace hB := Ze hB E
 replace a := E.at a
 replace b := E.at b
 replace d := E.at d
 obtain rfl := au
 refine Zb rfl <| Zb rfl <| cT <| Zt <| dL (v := .bool _) rfl ⟨hB, ?_⟩
 rfl
 rw [show dJ S = false from ja D] at Q; exact absurd rfl Q
 rw [show dJ S = false from ja D] at P; exact absurd ⟨rfl, rfl⟩ P
 refine c7 <| aq _ _ <| cY fun a1 av => ?_
 have hr : dJ S = true := jX D
 rw [if_pos hr, if_pos hr] at d
 refine Zr <| Zf rfl gm <| Zl rfl dC a rfl <| Zv (i4 rfl rfl) <| ZX rfl (fun aw => ?_) fun aw => ?_
 refine Zs <| Zs <| Zs <| Zs <| Zw (.bool true) rfl <| cT <| dz rfl <| Zr <| Zv (da rfl kc rfl d) <| Zv (kn (h0 := rfl) (k0 := rfl) (h1 := rfl) (k1 := rfl) (c0_0 := .int .i64 20000) (c1_0 := .int .i64 1000000)) <| Zv (yI rfl rfl) <| ZX rfl (fun t => ?_) fun t => ?_
 refine Zi rfl <| Zv (eq rfl rfl) <| Zb rfl <| ZX rfl (fun k => ?_) fun k => ?_
 refine ZC vm (ff _) rfl fun ax a2 F R => ?_
 replace hB := Ze hB F
 replace a := F.at a
 replace b := F.at b
 replace d := F.at d
 obtain rfl := R
 refine Zb rfl <| Zb rfl <| cT <| Zt <| dL (v := .bool _) rfl ⟨hB, ?_⟩
 rfl
 rw [if_pos hr] at k; exact absurd rfl k
 exact absurd ⟨rfl, rfl⟩ t
 refine Zf rfl f4 <| ZL onV rfl eK a rfl <| Zv (dB (v := onV) rfl (Below.slT hB hon) ej) <| Zv (i4 rfl rfl) <| Zb rfl <| cT <| ZQ rfl (fun ay => ?_) fun ay => ?_
 refine Zr <| Zv (da rfl kc rfl d) <| Zv (kn (h0 := rfl) (k0 := rfl) (h1 := rfl) (k1 := rfl) (c0_0 := .int .i64 20000) (c1_0 := .int .i64 1000000)) <| Zv (yI rfl rfl) <| ZX rfl (fun t => ?_) fun t => ?_
 refine Zi rfl <| Zv (eq rfl rfl) <| Zb rfl <| ZX rfl (fun k => ?_) fun k => ?_
 refine ZC vm (ff _) rfl fun ax a3 G R => ?_
 replace hB := Ze hB G
 replace a := G.at a
 replace b := G.at b
 replace d := G.at d
 obtain rfl := R
 refine Zb rfl <| Zb rfl <| cT <| Zt <| dL (v := .bool _) rfl ⟨hB, ?_⟩
 rfl
 rw [if_pos hr] at k; exact absurd rfl k
 exact absurd ⟨rfl, rfl⟩ t
 refine c7 <| av _ _ ?_
 have hn3 : S.n ≤ 3 := by omega
 have az : S.may.length ≤ 2 := by have := (dY.1 hr).2.2.2.2.1; omega
 refine Zr <| Zv (da rfl eT rfl a) <| Zv (da rfl kc rfl d) <| ZC (vs := [.agg #[_, _, _], .agg #[_, _]]) Db (jk S _ _ 20000 1000000 _ (Below.slT hB hon) (Below.slT hB hmay) (fun _ => ⟨by omega, by omega⟩)) rfl fun a4 a5 H ab => ?_
 have aA := (Below.size hB)
 replace hB := Ze hB H
 replace a := H.at a
 replace b := H.at b
 replace d := H.at d
 rw [if_pos (show dJ S = true ∧ pl _ _ from ⟨hr, by decide⟩)] at ab
 obtain ⟨x8_2, how8_2, why8_2, sp8_2, Rr8_2, rfl, f, hmo8_2⟩ := ab
 replace f := dh.mono f aA
 obtain ⟨rfl, rfl, hsa8_2, hsb8_2, hmin8_2⟩ := GY hr hn3 az hmo8_2
 refine Zw (.tuple #[.agg #[x8_2, .int .i64 1, .int .i64 0, .int .i64 _], .int .i64 0]) rfl <| Zv (dF rfl) <| Zv (dG rfl) <| Zy (dp kO rfl fun a6 a7 ac u e => ?_)
 have aB := ZO ac hB
 clear ac
 replace hB := Ze hB u
 replace a := u.at a
 replace b := u.at b
 replace d := u.at d
 replace f := u.ow f
 refine Zy (df rfl rfl eR rfl e rfl (by exact kK (dh.one f)) fun a8 x aC => ?_)
 replace hB := Zg hB x aB
 replace a := At.grownAt a e x Dd
 replace b := At.grownAt b e x Dd
 replace d := At.grownAt d e x Dd
 replace f := dh.grownAt f e x Dd
 replace e := aC
 refine Zw (.int .i64 0) rfl <| cT <| Zr <| Zv (da rfl eT rfl a) <| Zv (da rfl kc rfl b) <| ZC (vs := [.agg #[_, _, _], .agg #[_, _]]) Db (jk S _ _ b0 b1 _ (Below.slT hB hon) (Below.slT hB hmay) (fun _ => ⟨by omega, by omega⟩)) rfl fun a9 ba q I => ?_
 have aD := (Below.size hB)
 replace hB := Ze hB q
 replace a := q.at a
 replace b := q.at b
 replace d := q.at d
 replace f := q.ow f
 replace e := q.at e
 have hszm9_2 := aD
 by_cases hbm9_2 : dJ S = true ∧ pl b0 b1
 rw [if_pos hbm9_2] at I
 obtain ⟨x9_2, how9_2, why9_2, sp9_2, Rr9_2, rfl, h, hmo9_2⟩ := I
 replace h := dh.mono h hszm9_2
 refine Zw (.tuple #[.agg #[x9_2, .int .i64 _, .int .i64 _, .int .i64 _], .int .i64 0]) rfl <| Zv (dF rfl) <| Zv (dG rfl) <| Zy (dp kO rfl fun aE bb T l g => ?_)
 have U := ZO T hB
 have V := Zn T e.lt
 clear T
 replace hB := Ze hB l
 replace a := l.at a
 replace b := l.at b
 replace d := l.at d
 replace f := l.ow f
 replace e := l.at e
 replace h := l.ow h
 refine Zy (df rfl rfl eR rfl g rfl (by first | exact kK (dh.one h) | exact kK rfl) fun bc m aF => ?_)
 replace hB := Zg hB m U
 replace a := At.grownAt a g m Dd
 replace b := At.grownAt b g m Dd
 replace d := At.grownAt d g m Dd
 replace f := dh.grownAt f g m Dd
 replace e := At.grownNe e V m
 replace h := dh.grownAt h g m Dd
 replace g := aF
 refine Zw (.int .i64 0) rfl <| cT <| cY fun bd aG => Zr <| Zi rfl <| Zv (fC rfl rfl) <| ZX rfl (fun o => ?_) fun o => ?_
 rw [if_pos hr] at o; exact absurd rfl o
 refine Zw (.int .i64 0) rfl <| Zv (fC rfl rfl) <| Zb rfl <| ZX rfl (fun y => ?_) fun y => ?_
 exact absurd rfl y
 refine Zf rfl m7 <| Zl rfl dC e rfl <| Zv (fC rfl rfl) <| Zb rfl <| cT <| ZQ rfl (fun z => ?_) fun z => ?_
 exact absurd rfl z
 refine c7 <| aG _ _ <| Zr <| Zw (.int .i64 0) rfl <| Zv (fC rfl rfl) <| ZX rfl (fun A => ?_) fun A => ?_
 exact absurd rfl A
 refine Zf rfl m7 <| Zl rfl dC g rfl <| Zv (fC rfl rfl) <| Zb rfl <| ZX rfl (fun W => ?_) fun W => ?_
 refine Zs <| Zs <| Zs <| Zs <| Zs <| Zs <| Zs <| Zw (.bool true) rfl <| Zw (.bool true) rfl <| ZC vm (ff _) rfl fun ad bf i B => ?_
 replace hB := Ze hB i
 replace a := i.at a
 replace b := i.at b
 replace d := i.at d
 replace f := i.ow f
 replace e := i.at e
 replace h := i.ow h
 replace g := i.at g
 obtain rfl := B
 refine Zb rfl <| Zb rfl <| cT <| Zt <| dL (v := .bool _) rfl ⟨hB, ?_⟩
 rfl
 refine Zf rfl lR <| ZL x9_2 rfl kV g rfl <| Zv (dB (v := x9_2) rfl h.sl dV) <| Zf rfl lR <| ZL x8_2 rfl kV e rfl <| Zv (dB (v := x8_2) rfl f.sl dV) <| Zv (eq rfl rfl) <| Zb rfl <| ZX rfl (fun ae => ?_) fun ae => ?_
 refine ZC vm (ff _) rfl fun ad bg j B => ?_
 replace hB := Ze hB j
 replace a := j.at a
 replace b := j.at b
 replace d := j.at d
 replace f := j.ow f
 replace e := j.at e
 replace h := j.ow h
 replace g := j.at g
 obtain rfl := B
 refine Zb rfl <| Zb rfl <| cT <| Zt <| dL (v := .bool _) rfl ⟨hB, ?_⟩
 rfl
 exact absurd (by have h1 := (Hj hmo9_2 (Decidable.of_not_not W)).min _ hmin8_2.cov; have h2 := hmin8_2.min _ (Hj hmo9_2 (Decidable.of_not_not W)).cov; omega) ae
 rw [if_neg hbm9_2] at I
 obtain rfl := I
 refine Zw (.tuple #[.agg #[.slice none 0 0, .int .i64 0, .int .i64 0, .int .i64 0], .int .i64 1]) rfl <| Zv (dF rfl) <| Zv (dG rfl) <| Zy (dp kO rfl fun aE bh X r g => ?_)
 have U := ZO X hB
 have V := Zn X e.lt
 clear X
 replace hB := Ze hB r
 replace a := r.at a
 replace b := r.at b
 replace d := r.at d
 replace f := r.ow f
 replace e := r.at e
 refine Zy (df rfl rfl eR rfl g rfl (by first | exact kK (dh.one h) | exact kK rfl) fun bi s aH => ?_)
 replace hB := Zg hB s U
 replace a := At.grownAt a g s Dd
 replace b := At.grownAt b g s Dd
 replace d := At.grownAt d g s Dd
 replace f := dh.grownAt f g s Dd
 replace e := At.grownNe e V s
 replace g := aH
 refine Zw (.int .i64 1) rfl <| cT <| cY fun bj aI => Zr <| Zi rfl <| Zv (fC rfl rfl) <| ZX rfl (fun o => ?_) fun o => ?_
 rw [if_pos hr] at o; exact absurd rfl o
 refine Zw (.int .i64 0) rfl <| Zv (fC rfl rfl) <| Zb rfl <| ZX rfl (fun y => ?_) fun y => ?_
 exact absurd rfl y
 refine Zf rfl m7 <| Zl rfl dC e rfl <| Zv (fC rfl rfl) <| Zb rfl <| cT <| ZQ rfl (fun z => ?_) fun z => ?_
 exact absurd rfl z
 refine c7 <| aI _ _ <| Zr <| Zw (.int .i64 1) rfl <| Zv (fC rfl rfl) <| ZX rfl (fun A => ?_) fun A => ?_
 refine Zs <| Zs <| Zs <| Zw (.bool true) rfl <| Zw (.bool true) rfl <| Zs <| Zs <| Zs <| Zs <| Zs <| Zs <| Zs <| Zw (.bool true) rfl <| Zw (.bool true) rfl ?_
 refine ZC vm (ff _) rfl fun ad bk p B => ?_
 replace hB := Ze hB p
 replace a := p.at a
 replace b := p.at b
 replace d := p.at d
 replace f := p.ow f
 replace e := p.at e
 replace g := p.at g
 obtain rfl := B
 refine Zb rfl <| Zb rfl <| cT <| Zt <| dL (v := .bool _) rfl ⟨hB, ?_⟩
 rfl
 exact absurd Dd A
end
end Go.Proofs.YteimkklmmanncaaGreat
