/- What the fewest rows come to, with the room and the steps they ask for. No program in it. The walks of package minim. Room and steps that are enough, for few inputs and outputs. No program in it. The document's fewest rows, tried in all choices; and that enough is enough. No program in it. The walks -/
import Derived.Test.YteimkklmmanncaaGreatMin
namespace Go.Proofs.YteimkklmmanncaaGreat
set_option linter.unusedVariables false
set_option linter.unusedSimpArgs false
section
open Go Go.RowKit
def La (R : Nat) (S : Sp) (e : Int) : Prop := ∃ ns' id, Qi R [] S ns' id e ∧ ns'.length ≤ R ∧ Wf ns'
def OK (S : Sp) (T : Nat) : Prop := ∃ L ks, l4 (lQ S (eK S)) L ks ∧ T + 1 < 2 ^ cnt L
theorem vU {U r : List Int} (h : U.Nodup) : ∀ k, (pr U r k).Nodup
 | 0 => h
 | k + 1 => jt (vU h k) _
theorem Ok {l : List Int} {c : Int} : c ∈ pr [] l l.length ↔ c ∈ l := by
 rw [pO _ (Nat.le_refl _), List.take_length]; simp
theorem GV {n b : Int} {L : ML} {N : Nat} {TI : TypeId} {v : Value} {w' : World} (h : (∃ tv X s, v = .tuple #[tv, .int .i64 s, .int .i64 0] ∧ dh ef 1 TI w' N tv X ∧ My L n X ∧ X.length ≤ 4000 ∧ 0 ≤ s ∧ s ≤ b) ∨ (v = .tuple #[.slice none 0 0, .int .i64 b, .int .i64 6] ∧ b.toNat + 1 < 2 ^ cnt L)) (hb : 0 ≤ b) :
  ∃ tv X s e, v = .tuple #[tv, .int .i64 s, .int .i64 e] ∧ dh ef 1 TI w' N tv X ∧ X.length ≤ 4000 ∧ 0 ≤ s ∧ s ≤ b ∧ (e = 0 → My L n X) ∧ (¬ e = 0 → e = 6 ∧ b.toNat + 1 < 2 ^ cnt L) := by
 obtain ⟨tv, X, s, h1, h2, h3, h4, h5, h6⟩ | ⟨h1, h2⟩ := h
 ·exact ⟨tv, X, s, 0, h1, h2, h4, h5, h6, fun _ => h3, fun q => absurd rfl q⟩
 ·exact ⟨_, [], b, 6, h1, dh.nil, Nat.zero_le _, hb, Int.le_refl _, (fun q => (by cases q)), (fun _ => ⟨rfl, h2⟩)⟩
section
variable {S : Sp}
theorem OZ (hr : dO S = true) (hl : (eK S).length ≤ 4000) : zU S (eK S) = 0 := Nr hr (fun k hk => gz (vg hr k hk)) (by omega)
theorem G8 {L : ML} {T : List Int} (hr : dO S = true) (hl : (eK S).length ≤ 4000) (h : l4 (lQ S (eK S)) L T) : jk L L.length = true := by
 have h1 := MG hr hl
 obtain ⟨X, _, h2, _⟩ := h.dn _ (lr _ _) (qC (kc (S := S) hl) h1)
 exact LK h2
theorem IA (hr : dO S = true) : (lQ S (eK S)).length ≤ 1024 := by rw [Ge]; exact Io hr
theorem RC {R : Nat} {ns' : List Nd} {id : Nat} {e : Int} (h : Qi R [] S ns' id e) (h0 : ¬ e = 0) : e = 5 := (NX h).resolve_left h0
end
theorem jO {v : Value} {a b c : Int} (h : v.oneCell' = true) : [v, Value.int .i64 a, .int .i64 b, .int .i64 c].all Value.oneCell' = true := by simp only [List.all_cons, List.all_nil, h, Bool.and_true, Bool.true_and]; rfl
def Rl (R T : Nat) (S : Sp) (how sp e : Int) (Rr : List Rw) : Prop := (e = 0 ∧ how = 1 ∧ 0 ≤ sp ∧ sp ≤ T ∧ La R S 0 ∧ Kn S Rr) ∨ (e = 5 ∧ La R S 5) ∨ (e = 6 ∧ La R S 0 ∧ OK S T)
def m6 (b0 b1 : Int) : Prop := (0 ≤ b0 ∧ b0 ≤ 20000) ∧ 0 ≤ b1 ∧ b1 ≤ 1000000
instance (b0 b1 : Int) : Decidable (m6 b0 b1) := inferInstanceAs (Decidable (_ ∧ _))
def FI (R T : Nat) (S : Sp) (how why sp : Int) (Rr : List Rw) : Prop := (how = 1 ∧ why = 0 ∧ 0 ≤ sp ∧ sp ≤ T ∧ La R S 0 ∧ Kn S Rr) ∨ (how = 2 ∧ Rr = ju S (kE S) ∧ ((why = 5 ∧ sp = 0 ∧ La R S 5) ∨ (why = 6 ∧ sp = T ∧ La R S 0 ∧ OK S T)))
theorem Qe {b0 b1 : Int} (h : m6 b0 b1) : ∃ R T : Nat, b0 = (R : Int) ∧ b1 = (T : Int) ∧ True ∧ R ≤ 20000 ∧ T ≤ 1000000 := by
 obtain ⟨⟨h1, h2⟩, h3, h4⟩ := h
 exact ⟨b0.toNat, b1.toNat, by omega, by omega, trivial, by omega, by omega⟩
section
variable {R T : Nat} {S : Sp} {how sp e : Int} {Rr : List Rw}
theorem CE (h : Rl R T S how sp e Rr) (he : e = 0) : FI (R : Int).toNat (T : Int).toNat S how 0 sp Rr := by
 rw [Int.toNat_natCast, Int.toNat_natCast]
 rcases h with h | h | h
 ·exact .inl ⟨h.2.1, rfl, h.2.2.1, h.2.2.2.1, h.2.2.2.2.1, h.2.2.2.2.2⟩
 ·have := h.1; omega
 ·have := h.1; omega
theorem AR (h : Rl R T S how sp e Rr) (he : e = 6) : FI (R : Int).toNat (T : Int).toNat S 2 e (T : Int) (ju S (kE S)) := by
 rw [Int.toNat_natCast, Int.toNat_natCast]
 rcases h with h | h | h
 ·have := h.1; omega
 ·have := h.1; omega
 ·exact .inr ⟨rfl, rfl, .inr ⟨he, rfl, h.2⟩⟩
theorem ua (h : Rl R T S how sp e Rr) (h0 : ¬ e = 0) (h6 : ¬ e = 6) : FI (R : Int).toNat (T : Int).toNat S 2 e 0 (ju S (kE S)) := by
 rw [Int.toNat_natCast, Int.toNat_natCast]
 rcases h with h | h | h
 ·exact absurd h.1 h0
 ·exact .inr ⟨rfl, rfl, .inl ⟨h.1, rfl, h.2⟩⟩
 ·exact absurd h.1 h6
end
end
section
open Go Go.RowKit
theorem OC : dD Tryz.prog 65 = true := by kernel_rfl
theorem O8 : dD Tryz.prog 66 = true := by kernel_rfl
theorem Di : dD Tryz.prog 14 = true := by kernel_rfl
theorem kS : eO Tryz.prog 32 = some (.agg #[.slice none 0 0, .int .i64 0, .int .i64 0, .int .i64 0]) := by kernel_rfl
theorem nU : fy Tryz.prog 26 0 = some 0 := by kernel_rfl
theorem PC : dD Tryz.prog 42 = true := by kernel_rfl
theorem tH : (Tryz.prog.info? 29).map (·.size) = some 1 := by kernel_rfl
theorem jr {f : Nat → Value} {w : World} {d : Option Nat} {ty : TypeId} {ps : String} {af : Array Edge} {g : Option (Nat × Bool)}    :
    (execOp (dP f) ⟨d, .build 32 #[], ty, ps, af, g⟩).run Tryz.prog w = .ok (.value (.agg #[.slice none 0 0, .int .i64 0, .int .i64 0, .int .i64 0])) w := by
  obtain ⟨i0, hi0, hz0⟩ := Option.bind_eq_some_iff.1 (show (Tryz.prog.info? 32).bind (·.zero) = _ from kS)
  obtain ⟨j3, hj3, hs3⟩ := Option.map_eq_some_iff.1 iu
  obtain ⟨j29, hj29, hs29⟩ := Option.map_eq_some_iff.1 tH
  obtain ⟨j30, hj30, hs30⟩ := Option.map_eq_some_iff.1 qI
  simp [execOp, Instr.build, zeroValue, typeInfo, sizeOf, hi0, hz0, run_underlying Tryz.underlying32, Instr.fill, fe, hj3, hs3, hj29, hs29, hj30, hs30]
theorem eW : lu Tryz.prog 32 = some 4 := by kernel_rfl
theorem O0 : dD Tryz.prog 43 = true := by kernel_rfl
theorem iq : fy Tryz.prog 26 1 = some 1 := by kernel_rfl
theorem Oc : dD Tryz.prog 45 = true := by kernel_rfl
theorem xx {f : Nat → Value} {w : World} {d : Option Nat} {ty : TypeId} {ps : String} {af : Array Edge} {g : Option (Nat × Bool)} {x0 x1 : Operand} {c0_0 c1_0 : Value} (h0 : dP f x0 = c0_0) (k0 : c0_0.cells = #[c0_0]) (h1 : dP f x1 = c1_0) (k1 : c1_0.cells = #[c1_0]) :
    (execOp (dP f) ⟨d, .build 32 #[(1, x0), (3, x1)], ty, ps, af, g⟩).run Tryz.prog w = .ok (.value (.agg #[.slice none 0 0, c0_0, .int .i64 0, c1_0])) w := by
  obtain ⟨i0, hi0, hz0⟩ := Option.bind_eq_some_iff.1 (show (Tryz.prog.info? 32).bind (·.zero) = _ from kS)
  obtain ⟨j3, hj3, hs3⟩ := Option.map_eq_some_iff.1 iu
  obtain ⟨j29, hj29, hs29⟩ := Option.map_eq_some_iff.1 tH
  obtain ⟨j30, hj30, hs30⟩ := Option.map_eq_some_iff.1 qI
  simp [execOp, h0, k0, h1, k1, Instr.build, zeroValue, typeInfo, sizeOf, hi0, hz0, run_underlying Tryz.underlying32, Instr.fill, fe, hj3, hs3, hj29, hs29, hj30, hs30]
theorem fD : fy Tryz.prog 32 0 = some 0 := by kernel_rfl
theorem OU : dD Tryz.prog 21 = true := by kernel_rfl
theorem NY : dD Tryz.prog 22 = true := by kernel_rfl
theorem rX {f : Nat → Value} {w : World} {d : Option Nat} {ty : TypeId} {ps : String} {af : Array Edge} {g : Option (Nat × Bool)} {x0 x1 x2 x3 : Operand} {c0_0 c1_0 c2_0 c3_0 : Value} (h0 : dP f x0 = c0_0) (k0 : c0_0.cells = #[c0_0]) (h1 : dP f x1 = c1_0) (k1 : c1_0.cells = #[c1_0]) (h2 : dP f x2 = c2_0) (k2 : c2_0.cells = #[c2_0]) (h3 : dP f x3 = c3_0) (k3 : c3_0.cells = #[c3_0]) :
    (execOp (dP f) ⟨d, .build 32 #[(0, x0), (1, x1), (2, x2), (3, x3)], ty, ps, af, g⟩).run Tryz.prog w = .ok (.value (.agg #[c0_0, c1_0, c2_0, c3_0])) w := by
  obtain ⟨i0, hi0, hz0⟩ := Option.bind_eq_some_iff.1 (show (Tryz.prog.info? 32).bind (·.zero) = _ from kS)
  obtain ⟨j3, hj3, hs3⟩ := Option.map_eq_some_iff.1 iu
  obtain ⟨j29, hj29, hs29⟩ := Option.map_eq_some_iff.1 tH
  obtain ⟨j30, hj30, hs30⟩ := Option.map_eq_some_iff.1 qI
  simp [execOp, h0, k0, h1, k1, h2, k2, h3, k3, Instr.build, zeroValue, typeInfo, sizeOf, hi0, hz0, run_underlying Tryz.underlying32, Instr.fill, fe, hj3, hs3, hj29, hs29, hj30, hs30]
theorem o4 : lu Tryz.prog 26 = some 2 := by kernel_rfl
theorem Px : dD Tryz.prog 19 = true := by kernel_rfl
theorem NU : eO Tryz.prog 30 = some (.int .i64 0) := by kernel_rfl
theorem HP : dD Tryz.prog 20 = true := by kernel_rfl
theorem Kj : eO Tryz.prog 26 = some (.agg #[.int .i64 0, .int .i64 0]) := by kernel_rfl
theorem BD {f : Nat → Value} {w : World} {d : Option Nat} {ty : TypeId} {ps : String} {af : Array Edge} {g : Option (Nat × Bool)}    :
    (execOp (dP f) ⟨d, .build 26 #[], ty, ps, af, g⟩).run Tryz.prog w = .ok (.value (.agg #[.int .i64 0, .int .i64 0])) w := by
  obtain ⟨i0, hi0, hz0⟩ := Option.bind_eq_some_iff.1 (show (Tryz.prog.info? 26).bind (·.zero) = _ from Kj)
  obtain ⟨j3, hj3, hs3⟩ := Option.map_eq_some_iff.1 iu
  simp [execOp, Instr.build, zeroValue, typeInfo, sizeOf, hi0, hz0, run_underlying Tryz.underlying26, Instr.fill, fe, hj3, hs3]
theorem wX {f : Nat → Value} {w : World} {d : Option Nat} {ty : TypeId} {ps : String} {af : Array Edge} {g : Option (Nat × Bool)} {x0 x1 : Operand} {c0_0 c1_0 : Value} (h0 : dP f x0 = c0_0) (k0 : c0_0.cells = #[c0_0]) (h1 : dP f x1 = c1_0) (k1 : c1_0.cells = #[c1_0]) :
    (execOp (dP f) ⟨d, .build 26 #[(0, x0), (1, x1)], ty, ps, af, g⟩).run Tryz.prog w = .ok (.value (.agg #[c0_0, c1_0])) w := by
  obtain ⟨i0, hi0, hz0⟩ := Option.bind_eq_some_iff.1 (show (Tryz.prog.info? 26).bind (·.zero) = _ from Kj)
  obtain ⟨j3, hj3, hs3⟩ := Option.map_eq_some_iff.1 iu
  simp [execOp, h0, k0, h1, k1, Instr.build, zeroValue, typeInfo, sizeOf, hi0, hz0, run_underlying Tryz.underlying26, Instr.fill, fe, hj3, hs3]
set_option maxRecDepth 20000 in
theorem xm (S : Sp) (onV mayV : Value) (R : Nat) (w : World) (hon : dN gp 4 w onV S.on) (hmay : dN gp 4 w mayV S.may) (hr : dO S = true) (hR : R ≤ 20000) :
    Fn Tryz.prog 42 #[.agg #[.int .i64 S.n, onV, mayV], .int .i64 (R : Int)] w fun v w' => ∃ x e, v = .tuple #[x, .int .i64 e] ∧ La R S e ∧ (e = 0 → dh fJ 3 42 w' w.heap.size x (eK S)) := by
 refine dq (n := 31) Tryz.func42 rfl rfl (Nat.le_of_ble_eq_true rfl) ?_
 have hB : Below w.heap.size w w := Below.refl _ _
 refine Zr <| Zy (dY (c := #[_, _, _]) rfl rfl fun A W3 g m a => ?_)
 have B := ZO g hB
 clear g
 replace hB := Ze hB m
 refine Zw (.slice none 0 0) rfl <| Zw (.int .i64 0) rfl <| cT <| Zr <| Zi rfl <| ZC OC (Gj R _ hR) rfl fun C W8 h o => ?_
 have p := (Below.size hB)
 replace hB := Ze hB h
 replace a := h.at a
 obtain ⟨bz, ba, bm, rfl, hz, hD⟩ := o
 replace hD := fI.mono hD p
 refine Zw (.tuple #[.pointer (some ⟨bz, 0, none⟩), .int .i64 0]) rfl <| Zv (dG rfl) <| Zv (dJ rfl) <| Zp rfl <| Zw (.int .i64 0) rfl <| cT <| cY fun D r => Zr <| Zw (.int .i64 0) rfl <| Zv (f4 rfl rfl) <| cT <| ZQ rfl (fun i => ?_) fun i => ?_
 exact absurd rfl i
 refine c7 <| r _ _ <| cY fun E s => Zr <| Zp rfl <| Zv (db rfl ez rfl a) <| ZH (vs := [.pointer (some ⟨bz, 0, none⟩), .agg #[_, _, _]]) O8 (zD w _ _ _ _ _ S onV mayV _ hB hz hD hr hon hmay) rfl fun F G t => ?_
 obtain ⟨H, u, j, rfl, d, y, k⟩ := t
 replace hB := Below.dx hB (Nat.le_refl _) (Nat.le_refl _) d
 replace a := At.dx hD d a Dd Dd
 replace hz := At.dx hD d hz Dd Dd
 replace hD := y
 refine Zw (.tuple #[.int .i64 (u : Int), .int .i64 j]) rfl <| Zv (dG rfl) <| Zv (dJ rfl) <| Zi rfl <| Zi rfl <| cT ?_
 have hro5 := hD.room
 have hwf5 := hD.wf
 refine Zr <| Zi rfl <| Zv (f4 rfl rfl) <| cT <| ZQ rfl (fun f => ?_) fun f => ?_
 refine Zr <| Zi rfl <| Zw (.slice none 0 0) rfl <| Zi rfl <| cT <| Zt <| d6 (v := .slice none 0 0) rfl (v1 := .int .i64 _) rfl ⟨hB, ?_⟩
 exact ⟨_, _, rfl, ⟨_, _, k, hro5, hwf5⟩, fun q => absurd q f⟩
 refine c7 <| s _ _ ?_
 have he0 : j = 0 := Decidable.of_not_not f
 refine Zr <| Zv (db rfl ez rfl a) <| ZC (vs := [.agg #[_, _, _]]) Di (qz S _ _  _ (Below.slT hB hon) (Below.slT hB hmay) ) rfl fun I J b l => ?_
 have z := (Below.size hB)
 replace hB := Ze hB b
 replace a := b.at a
 replace hD := fI.ext b hD
 replace hz := b.at hz
 rw [if_pos hr] at l
 obtain ⟨xl, rfl, hol⟩ := l
 replace hol := dh.mono hol z
 refine Zv (dG rfl) <| Zv (dJ rfl) <| Zw xl rfl <| Zw (.int .i64 0) rfl <| cT <| Zt <| d6 (v := xl) rfl (v1 := .int .i64 0) rfl ⟨hB, ?_⟩
 exact ⟨_, _, rfl, ⟨_, _, he0 ▸ k, hro5, hwf5⟩, fun _ => hol⟩
set_option maxRecDepth 20000 in
theorem wn (S : Sp) (onV mayV : Value) (R T : Nat) (w : World) (hon : dN gp 4 w onV S.on) (hmay : dN gp 4 w mayV S.may) (hr : dO S = true) (hR : R ≤ 20000) (hT : T ≤ 1000000) (h4 : S.n ≤ 4) (h3 : S.on.length ≤ 3) :
    Fn Tryz.prog 19 #[.agg #[.int .i64 S.n, onV, mayV], .agg #[.int .i64 (R : Int), .int .i64 (T : Int)]] w fun v w' => ∃ x how sp e Rr, v = .tuple #[.agg #[x, .int .i64 how, .int .i64 0, .int .i64 sp], .int .i64 e] ∧ dh fJ 3 42 w' w.heap.size x Rr ∧ Rl R T S how sp e Rr := by
 refine dq (n := 91) Tryz.func19 rfl rfl (Nat.le_of_ble_eq_true rfl) ?_
 have hB : Below w.heap.size w w := Below.refl _ _
 refine Zr <| Zy (dY (c := #[_, _, _]) rfl rfl fun aB W3 ai aC f => ?_)
 have bm := ZO ai hB
 clear ai
 replace hB := Ze hB aC
 refine Zy (dY (c := #[_, _]) rfl rfl fun aD W6 aj ak g => ?_)
 have bn := ZO aj hB
 clear aj
 replace hB := Ze hB ak
 replace f := ak.at f
 refine Zy (dt kS rfl fun al W9 ao U d => ?_)
 have V := ZO ao hB
 clear ao
 replace hB := Ze hB U
 replace f := U.at f
 replace g := U.at g
 refine Zw (.int .i64 0) rfl <| cT <| Zr <| Zv (db rfl ez rfl f) <| Zf rfl nU <| Zl rfl du g rfl <| ZC (vs := [.agg #[_, _, _], .int .i64 _]) PC (xm S _ _ R _ (Below.slT hB hon) (Below.slT hB hmay) hr hR) rfl fun bo bp L aE => ?_
 have aF := (Below.size hB)
 replace hB := Ze hB L
 replace f := L.at f
 replace g := L.at g
 replace d := L.at d
 obtain ⟨x1_3, e1_3, rfl, hno1_3, hxo1_3⟩ := aE
 have hszP := aF
 refine Zw (.tuple #[x1_3, .int .i64 e1_3]) rfl <| Zv (dG rfl) <| Zv (dJ rfl) <| Zw x1_3 rfl <| Zw (.int .i64 e1_3) rfl <| cT <| cY fun bq aG => Zr <| Zw (.int .i64 e1_3) rfl <| Zv (f4 rfl rfl) <| cT <| ZQ rfl (fun X => ?_) fun X => ?_
 refine Zr <| Zv (jr ) <| Zw (.int .i64 e1_3) rfl <| Zy (dg rfl rfl eW rfl d rfl rfl fun br Y aH => ?_)
 replace hB := Zg hB Y V
 replace f := At.grownAt f d Y Dd
 replace g := At.grownAt g d Y Dd
 replace d := aH
 refine Zw (.int .i64 e1_3) rfl <| cT <| Zt <| fz rfl eW d rfl (v1 := .int .i64 e1_3) rfl ⟨hB, ?_⟩
 exact ⟨_, _, _, _, _, rfl, dh.nil, .inr (.inl (by obtain ⟨ns', id, h⟩ := hno1_3; obtain rfl := RC h.1 X; exact ⟨rfl, ns', id, h⟩))⟩
 refine c7 <| aG _ _ ?_
 have he0 : e1_3 = 0 := Decidable.of_not_not X
 have hxo := dh.mono (hxo1_3 he0) hszP
 have hl2 := qY hr h4 h3
 have hl4 : (eK S).length ≤ 4000 := by omega
 have aI := OZ hr hl4
 have aJ := kc (S := S) hl4
 have hrl0 := IA hr
 refine Zr <| Zv (db rfl ez rfl f) <| Zw x1_3 rfl <| ZC (vs := [.agg #[_, _, _], x1_3]) O0 (Aw S _ _ _ (eK S) _ (Below.slT hB hon) (Below.slT hB hmay) hxo.sl Om (HE hr)) rfl fun bs bt H ap => ?_
 replace hB := Ze hB H
 replace f := H.at f
 replace g := H.at g
 replace d := H.at d
 replace hxo := H.ow hxo
 rw [if_pos aI] at ap
 obtain ⟨rv4_2, bu, rfl, hk4_2, hLO4_2⟩ := ap
 replace hk4_2 := dh.mono hk4_2 (Nat.zero_le _)
 replace hLO4_2 := LO.mono hLO4_2 (Nat.zero_le _)
 refine Zw (.tuple #[.agg #[.int .i64 _, rv4_2], .int .i64 0]) rfl <| Zv (dG rfl) <| Zv (dJ rfl) <| Zy (dt im rfl fun aK bv aq D i => ?_)
 have aL := ZO aq hB
 clear aq
 replace hB := Ze hB D
 replace f := D.at f
 replace g := D.at g
 replace d := D.at d
 replace hxo := D.ow hxo
 replace hk4_2 := D.ow hk4_2
 replace hLO4_2 := LO.ext D hLO4_2
 refine Zy (dg rfl rfl dK rfl i rfl (by exact il (dh.one hk4_2)) fun bw E aM => ?_)
 replace hB := Zg hB E aL
 replace f := At.grownAt f i E Dd
 replace g := At.grownAt g i E Dd
 replace d := At.grownAt d i E Dd
 replace hxo := dh.grownAt hxo i E Dd
 replace hk4_2 := dh.grownAt hk4_2 i E Dd
 replace hLO4_2 := LO.grownAt hLO4_2 i E Dd
 replace i := aM
 refine Zw (.int .i64 0) rfl <| cT <| cY fun bx aN => Zr <| Zw (.int .i64 0) rfl <| Zv (f4 rfl rfl) <| cT <| ZQ rfl (fun ar => ?_) fun ar => ?_
 exact absurd rfl ar
 refine c7 <| aN _ _ <| Zr <| Zv (db rfl dK rfl i) <| ZC (vs := [.agg #[_, _]]) Ke (pj _ _ _ (lQ S (eK S)) _ (dh.mono hk4_2 (Nat.zero_le _)) (LO.mono hLO4_2 (Nat.zero_le _)) aJ Om) rfl fun bz bA C aO => ?_
 have aP := (Below.size hB)
 replace hB := Ze hB C
 replace f := C.at f
 replace g := C.at g
 replace d := C.at d
 replace hxo := C.ow hxo
 replace hk4_2 := C.ow hk4_2
 replace hLO4_2 := LO.ext C hLO4_2
 replace i := C.at i
 obtain ⟨tv7_1, T7_1, rv7_1, bB, L7_1, rfl, ht7_1, hk7_1, hLO7_1, hrd7_1, aQ, hln7_1, hTl7_1⟩ := aO
 skip
 replace ht7_1 := dh.mono ht7_1 aP
 refine Zw (.tuple #[tv7_1, .agg #[.int .i64 _, rv7_1], .int .i64 0]) rfl <| Zv (mK rfl) <| Zv (sM rfl) <| Zv (tk rfl) <| Zy (dt im rfl fun aR bC Z s l => ?_)
 have aS := ZO Z hB
 have aT := Zn Z i.lt
 clear Z
 replace hB := Ze hB s
 replace f := s.at f
 replace g := s.at g
 replace d := s.at d
 replace hxo := s.ow hxo
 replace hk4_2 := s.ow hk4_2
 replace hLO4_2 := LO.ext s hLO4_2
 replace i := s.at i
 replace ht7_1 := s.ow ht7_1
 replace hk7_1 := s.ow hk7_1
 replace hLO7_1 := LO.ext s hLO7_1
 refine Zw tv7_1 rfl <| Zy (dg rfl rfl dK rfl l rfl (by exact il (dh.one hk7_1)) fun bD t aU => ?_)
 replace hB := Zg hB t aS
 replace f := At.grownAt f l t Dd
 replace g := At.grownAt g l t Dd
 replace d := At.grownAt d l t Dd
 replace hxo := dh.grownAt hxo l t Dd
 replace hk4_2 := dh.grownAt hk4_2 l t Dd
 replace hLO4_2 := LO.grownAt hLO4_2 l t Dd
 replace i := At.grownNe i aT t
 replace ht7_1 := dh.grownAt ht7_1 l t Dd
 replace hk7_1 := dh.grownAt hk7_1 l t Dd
 replace hLO7_1 := LO.grownAt hLO7_1 l t Dd
 replace l := aU
 refine Zw (.int .i64 0) rfl <| cT <| Zr <| Zv (db rfl dK rfl l) <| Zf rfl iq <| Zl rfl du g rfl <| ZC (vs := [.agg #[_, _], .int .i64 _]) Oc (uF _ _ _ L7_1 (T : Int) _ (dh.mono hk7_1 (Nat.zero_le _)) (LO.mono hLO7_1 (Nat.zero_le _)) aQ Om (G8 hr hl4 hrd7_1) Om) rfl fun bE bF q aV => ?_
 have bG := dh.lt2 ht7_1
 have aW := (Below.size hB)
 replace hB := Ze hB q
 replace f := q.at f
 replace g := q.at g
 replace d := q.at d
 replace hxo := q.ow hxo
 replace hk4_2 := q.ow hk4_2
 replace hLO4_2 := LO.ext q hLO4_2
 replace i := q.at i
 replace ht7_1 := q.ow ht7_1
 replace hk7_1 := q.ow hk7_1
 replace hLO7_1 := LO.ext q hLO7_1
 replace l := q.at l
 obtain ⟨tv8_3, X8_3, s8_3, e8_3, rfl, ht8_3, hXl8_3, aX, hsb8_3, hfw8_3, hto8_3⟩ := GV aV (Int.natCast_nonneg _)
 replace ht8_3 := dh.mono ht8_3 aW
 refine Zw (.tuple #[tv8_3, .int .i64 s8_3, .int .i64 e8_3]) rfl <| Zv (mK rfl) <| Zv (sM rfl) <| Zv (tk rfl) <| Zw tv8_3 rfl <| Zw (.int .i64 s8_3) rfl <| Zw (.int .i64 e8_3) rfl <| cT <| cY fun bH aY => Zr <| Zw (.int .i64 e8_3) rfl <| Zv (f4 rfl rfl) <| cT <| ZQ rfl (fun M => ?_) fun M => ?_
 refine Zr <| Zv (jr ) <| Zw (.int .i64 e8_3) rfl <| Zy (dg rfl rfl eW rfl d rfl rfl fun bI A aZ => ?_)
 replace hB := Zg hB A V
 replace f := At.grownAt f d A Dd
 replace g := At.grownAt g d A Dd
 replace hxo := dh.grownAt hxo d A Dd
 replace hk4_2 := dh.grownAt hk4_2 d A Dd
 replace i := At.grownAt i d A Dd
 replace ht7_1 := dh.grownAt ht7_1 d A Dd
 replace hk7_1 := dh.grownAt hk7_1 d A Dd
 replace l := At.grownAt l d A Dd
 replace ht8_3 := dh.grownAt ht8_3 d A Dd
 clear hLO4_2 hLO7_1
 replace d := aZ
 refine Zw (.int .i64 e8_3) rfl <| cT <| Zt <| fz rfl eW d rfl (v1 := .int .i64 e8_3) rfl ⟨hB, ?_⟩
 exact ⟨_, _, _, _, _, rfl, dh.nil, .inr (.inr ⟨(hto8_3 M).1, he0 ▸ hno1_3, L7_1, T7_1, hrd7_1, by have := (hto8_3 M).2; rwa [Int.toNat_natCast] at this⟩)⟩
 refine c7 <| aY _ _ <| Zr <| Zy (gR (enc := eN) (encV := Value.bool) fun N bJ au p G => ?_)
 have a0 := ZO au hB
 clear au
 replace hB := Ze hB p
 replace f := p.at f
 replace g := p.at g
 replace d := p.at d
 replace hxo := p.ow hxo
 replace hk4_2 := p.ow hk4_2
 replace hLO4_2 := LO.ext p hLO4_2
 replace i := p.at i
 replace ht7_1 := p.ow ht7_1
 replace hk7_1 := p.ow hk7_1
 replace hLO7_1 := LO.ext p hLO7_1
 replace l := p.at l
 replace ht8_3 := p.ow ht8_3
 replace G : dT eN Value.bool _ _ (fx []) := G
 refine Zw (.map (some N)) rfl <| cT <| cY fun bK a1 => Zr <| Zw tv7_1 rfl <| Zw tv8_3 rfl <| Zy (eC (v := tv7_1) (v2 := tv8_3) rfl rfl dw fC Dd ht7_1 ht8_3.sl (kR) (by have := Below.size hB; omega) Om Om fun aa bL B o => ?_)
 replace o := dh.app (enc := ef) rfl rfl rfl rfl o
 replace hB := ZG hB B ht7_1
 replace f := At.grownOw f ht7_1 B Dd
 replace g := At.grownOw g ht7_1 B Dd
 replace d := At.grownOw d ht7_1 B Dd
 replace hxo := dh.grownOw hxo ht7_1 B Dd
 replace hk4_2 := dh.grownOw hk4_2 ht7_1 B Dd
 replace i := At.grownOw i ht7_1 B Dd
 replace hk7_1 := dh.grownOw hk7_1 ht7_1 B Dd
 replace l := At.grownOw l ht7_1 B Dd
 replace G := dT.grownOw G ht7_1 B
 clear hLO4_2 hLO7_1 ht8_3 ht7_1
 refine Zv (dz (v := aa) rfl o.sl dw) <| Zw (.int .i64 0) rfl <| cT <| c9 ?_
 refine dy (σ := (Nat)) [16, 64, 65, 66, 67, 68, 69, 70] (fun j => [(64, .int .i64 (j : Int))]) (fun j W => (Below w.heap.size w W) ∧ (At W aB _ 24) ∧ (At W aD _ 26) ∧ (At W al _ 32) ∧ (dh fJ 3 42 W w.heap.size x1_3 _) ∧ (dh encV 1 80 W 0 rv4_2 _) ∧ (At W aK _ 77) ∧ (dh encV 1 80 W 0 rv7_1 _) ∧ (At W aR _ 77) ∧ (dh ef 1 3 W w.heap.size aa _) ∧ (dT eN Value.bool W N (fx (pr [] (T7_1 ++ X8_3) j))) ∧ (j ≤ (T7_1 ++ X8_3).length) ∧ (True)) (fun j => (T7_1 ++ X8_3).length - j) (0) ⟨rfl, trivial⟩ ⟨hB, f, g, d, hxo, hk4_2, i, hk7_1, l, o, G, (Nat.zero_le _), trivial⟩ ?_
 clear hB f g d hxo hk4_2 i hk7_1 l G o
 rintro j bM I ⟨hB, f, g, d, hxo, hk4_2, i, hk7_1, l, o, hmk, hj, _⟩ bN a2
 have hcl : (T7_1 ++ X8_3).length ≤ 16000 := by rw [List.length_append]; omega
 refine Zr <| Zv (dM rfl rfl) <| cT <| cY fun bO a3 => ZQ rfl (fun a4 => ?_) fun a4 => ?_
 refine c7 <| a3 _ _ <| cY fun bP a5 => c9 <| Zr <| Zv (dF (v := aa) rfl o.sl rfl dw Om Om) <| Zv (dk (v := .int .i64 _) rfl du (dN.cell o.sl eI 0 Om Om 0 rfl)) <| Zi rfl <| cT <| cZ <| Zw (.map (some N)) rfl <| Zi rfl ?_
 refine g7 (dd := none) rfl rfl rfl (fL (enc := eN) (encV := Value.bool) (k := ((T7_1 ++ X8_3).getD j 0)) (v := true) rfl rfl rfl nt gS (fun a => ⟨a, rfl⟩) fT hmk (fun bQ y a6 => ?_))
 replace hB := Zg hB y a0
 replace f := At.grownMap f hmk y
 replace g := At.grownMap g hmk y
 replace d := At.grownMap d hmk y
 replace hxo := dh.grownMap hxo hmk y
 replace hk4_2 := dh.grownMap hk4_2 hmk y
 replace i := At.grownMap i hmk y
 replace hk7_1 := dh.grownMap hk7_1 hmk y
 replace l := At.grownMap l hmk y
 replace o := dh.grownMap o hmk y
 clear y hmk
 replace hmk := a6
 rw [jz] at hmk
 refine cT <| a5 _ _ <| cZ <| Zv (dm rfl rfl Om Om) <| Zi rfl <| cT ?_
 exact a2 _ _ (j + 1) Za ⟨rfl, trivial⟩ ⟨hB, f, g, d, hxo, hk4_2, i, hk7_1, l, o, (by exact hmk), Om, trivial⟩ Zo
 refine dr <| a1 _ _ ?_
 have a7 := Below.slT hB hon
 have a8 := Below.slT hB hmay
 have ab := hB
 replace hB := Below.refl I.heap.size I
 obtain rfl : j = (T7_1 ++ X8_3).length := by omega
 refine Zr <| Zw (.int .i64 s8_3) rfl <| Zv (xx (h0 := rfl) (k0 := rfl) (h1 := rfl) (k1 := rfl) (c0_0 := .int .i64 1) (c1_0 := .int .i64 s8_3)) <| Zy (dt kS rfl fun av bR ac a9 m => ?_)
 have O := ZO ac hB
 have ba : al ≠ av := Nat.ne_of_lt (ac ▸ (Below.atI hB d).lt)
 clear ac
 replace hB := Ze hB a9
 refine Zy (dg rfl rfl eW rfl m rfl rfl fun bS bb bc => ?_)
 replace hB := Zg hB bb O
 replace m := bc
 refine cT <| cY fun bT bd => Zr <| Zw x1_3 rfl <| Zv (dz (v := x1_3) rfl ((Below.ow hB hxo)).sl dL) <| Zw (.int .i64 0) rfl <| cT <| c9 ?_
 refine dy (σ := (Nat) × (Value)) [18, 19, 75, 76, 77, 78, 79, 80, 81, 82, 83, 84, 85, 86, 87, 88, 89] (fun (k, v0) => [(75, .int .i64 (k : Int))]) (fun sg W => match sg with | (k, v0) => (Below I.heap.size I W) ∧ (At W av #[v0, .int .i64 1, .int .i64 0, .int .i64 s8_3] 32) ∧ (dh fJ 3 42 W I.heap.size v0 (xD (eK S) (pr [] (T7_1 ++ X8_3) (T7_1 ++ X8_3).length) k)) ∧ (k ≤ (eK S).length) ∧ (True)) (fun (k, v0) => (eK S).length - k) ((0, .slice none 0 0)) ⟨rfl, trivial⟩ ⟨hB, m, dh.nil, (Nat.zero_le _), trivial⟩ ?_
 clear hB m
 rintro ⟨k, v0⟩ bU bV ⟨hB, m, ho, hk, _⟩ bW aw
 refine Zr <| Zv (dM rfl rfl) <| cT <| cY fun bX bf => ZQ rfl (fun bg => ?_) fun bg => ?_
 refine c7 <| bf _ _ <| cY fun bY ax => c9 <| Zr <| Zi rfl <| Zv (dF (v := x1_3) rfl ((Below.ow hB hxo)).sl rfl dL Om Om) <| Zv (i4 rfl ex (dN.cell ((Below.ow hB hxo)).sl dU ⟨⟨0, 0⟩, 0⟩ Om Om 0 rfl) (dN.cell ((Below.ow hB hxo)).sl dU ⟨⟨0, 0⟩, 0⟩ Om Om 1 rfl) (dN.cell ((Below.ow hB hxo)).sl dU ⟨⟨0, 0⟩, 0⟩ Om Om 2 rfl)) <| Zy (dt lk rfl fun ay bZ P ad z => ?_)
 have bh := ZO P hB
 have b0 := dh.neB (b := ay) (Below.ow hB hxo) (Nat.le_of_eq P.symm)
 have az := dh.neB (b := ay) ho (Nat.le_of_eq P.symm)
 clear P
 replace hB := Ze hB ad
 replace m := ad.at m
 replace ho := ad.ow ho
 refine Zi rfl <| Zy (dg rfl rfl ex rfl z rfl rfl fun b1 ae bi => ?_)
 replace hB := Zg hB ae bh
 replace m := At.grownAt m z ae Dd
 replace ho := dh.grownAtNe ho az ae
 replace z := bi
 refine cT <| Zr <| Zw (.map (some N)) rfl <| Zi rfl <| Zv (fV (enc := eN) (encV := Value.bool) (v0 := false) (k := _) rfl rfl nt gS (fun a => ⟨a, rfl⟩) fT ph rfl (Below.mapI hB hmk)) <| cT <| ZQ rfl (fun J => ?_) fun J => ?_
 refine cZ <| Zf rfl fD <| ZL v0 rfl fY m rfl <| Zv (db rfl ex rfl z) <| Zy (ff (u := .agg #[_, _, _]) rfl dL g6 rfl Dd Dd fun af b2 K Q bj => ?_)
 have b3 := ZO K hB
 have b4 := dh.neB (b := af) (Below.ow hB hxo) (Nat.le_of_eq K.symm)
 have b5 := dh.neB (b := af) ho (Nat.le_of_eq K.symm)
 have b6 := Zn K z.lt
 clear K
 replace hB := Ze hB Q
 replace m := Q.at m
 replace ho := Q.ow ho
 replace z := Q.at z
 refine Zy (eC (v := v0) (v2 := .slice (some ⟨af, 0, none⟩) 1 1) rfl rfl dL g6 Dd ho (fF bj rfl) rfl (by have := Below.size hB; omega) (by have := ER (eK S) (pr [] (T7_1 ++ X8_3) (T7_1 ++ X8_3).length) k; omega) (by have := ER (eK S) (pr [] (T7_1 ++ X8_3) (T7_1 ++ X8_3).length) k; omega) fun aA b7 ag F => ?_)
 replace F := dh.snoc (enc := fJ) (x := ((eK S).getD k ⟨⟨0, 0⟩, 0⟩)) rfl rfl rfl rfl F
 replace hB := ZG hB ag ho
 replace m := At.grownOw m ho ag Dd
 replace z := At.grownOwNe z az ag
 clear ho
 refine Zf rfl fD <| Zy (eH (v := aA) rfl rfl fY (dN.one F.sl) m (by simp) fun b8 ah bk => ?_)
 replace hB := Zg hB ah O
 replace z := At.grownAt z m ah Dd
 replace F := dh.grownAt F m ah Dd
 replace m := bk
 replace m : At _ _ #[_, _, _, _] _ := m
 refine cT <| ax _ _ <| cZ <| Zv (dm rfl rfl Om Om) <| Zi rfl <| cT ?_
 exact aw _ _ ((k + 1, aA)) Za ⟨rfl, trivial⟩ ⟨hB, (by exact m), (by first | (rw [← NA (nj J)]; exact F) | (rw [← Nk (lV J)]; exact F)), Om, trivial⟩ (by show (eK S).length - (k + 1) < (eK S).length - k; omega)
 refine c7 <| ax _ _ <| cZ <| Zv (dm rfl rfl Om Om) <| Zi rfl <| cT ?_
 exact aw _ _ ((k + 1, v0)) Za ⟨rfl, trivial⟩ ⟨hB, (by exact m), (by first | (rw [← NA (nj J)]; exact ho) | (rw [← Nk (lV J)]; exact ho)), Om, trivial⟩ (by show (eK S).length - (k + 1) < (eK S).length - k; omega)
 refine dr <| bd _ _ ?_
 try clear a7
 try clear a8
 replace f := Below.atI hB f
 replace g := Below.atI hB g
 replace d := Below.atI hB d
 replace hxo := Below.ow hB hxo
 replace hk4_2 := Below.ow hB hk4_2
 replace i := Below.atI hB i
 replace hk7_1 := Below.ow hB hk7_1
 replace l := Below.atI hB l
 replace o := Below.ow hB o
 replace hmk := Below.mapI hB hmk
 have hzs := Nat.le_trans (Nat.le_refl _) (Below.size ab)
 replace O := Nat.le_trans hzs O
 replace ho := dh.mono ho hzs
 replace hB := Below.trans ab (Below.mono hB hzs)
 clear ab hzs
 obtain rfl : k = (eK S).length := by omega
 refine Zr <| Zv (db rfl eW rfl m) <| Zy (dg rfl rfl eW rfl d rfl (by exact jO (dh.one ho)) fun b9 r bl => ?_)
 replace f := At.grownAt f d r Dd
 replace g := At.grownAt g d r Dd
 replace hxo := dh.grownAt hxo d r Dd
 replace hk4_2 := dh.grownAt hk4_2 d r Dd
 replace i := At.grownAt i d r Dd
 replace hk7_1 := dh.grownAt hk7_1 d r Dd
 replace l := At.grownAt l d r Dd
 replace o := dh.grownAt o d r Dd
 replace hmk := dT.grownAt hmk d r
 replace hB := Zg hB r V
 replace m := At.grownNe m (Ne.symm ba) r
 replace ho := dh.grownAt ho d r Dd
 replace d := bl
 refine Zw (.int .i64 0) rfl <| cT <| Zt <| fz rfl eW d rfl (v1 := .int .i64 0) rfl ⟨hB, ?_⟩
 exact ⟨_, _, _, _, _, rfl, ho, .inl ⟨rfl, rfl, aX, hsb8_3, he0 ▸ hno1_3, Mq hr hl4 hrd7_1 (hfw8_3 (Decidable.of_not_not M)) (fun c => Ok) (vU List.nodup_nil _)⟩⟩
theorem mY (S : Sp) (onV mayV : Value) (p q : Int) (bs be : Nat) (w : World) (hon : dN gp 4 w onV S.on) (hmay : dN gp 4 w mayV S.may) (hr : dO S = true) (hsp : At w bs #[.int .i64 S.n, onV, mayV] 24) (hbe : At w be #[.int .i64 q] 30) :
    Fn Tryz.prog 20 #[.int .i64 p, .pointer (some ⟨bs, 0, none⟩), .pointer (some ⟨be, 0, none⟩)] w fun v w' => ∃ x, v = .tuple #[.agg #[x, .int .i64 2, .int .i64 q, .int .i64 p], .int .i64 0] ∧ dh fJ 3 42 w' w.heap.size x (ju S (kE S)) := by
 refine dq (n := 26) Tryz.func20 rfl rfl (Nat.le_of_ble_eq_true rfl) ?_
 have hB : Below w.heap.size w w := Below.refl _ _
 refine Zr <| Zy (dt kS rfl fun m W3 d h a => ?_)
 have i := ZO d hB
 clear d
 replace hB := Ze hB h
 refine Zw (.int .i64 0) rfl <| cT <| Zr <| Zv (db rfl ez rfl (Below.atI hB hsp)) <| ZC (vs := [.agg #[_, _, _]]) OU (Ac S _ _  _ (Below.slT hB hon) (Below.slT hB hmay) ) rfl fun o W8 e f => ?_
 have j := (Below.size hB)
 replace hB := Ze hB e
 replace a := e.at a
 rw [if_pos hr] at f
 obtain ⟨xpl, rfl, hpl⟩ := f
 replace hpl := dh.mono hpl j
 refine Zw (.tuple #[xpl, .int .i64 0]) rfl <| Zv (dG rfl) <| Zv (dJ rfl) <| Zw xpl rfl <| Zw (.int .i64 0) rfl <| cT <| Zr <| Zv (db rfl ez rfl (Below.atI hB hsp)) <| Zw xpl rfl <| ZC (vs := [.agg #[_, _, _], xpl]) NY (A7 S _ _ _ (kE S) _ (Below.slT hB hon) (Below.slT hB hmay) hpl.sl (by have := yA hr; omega) (Ga hr) (by have := (d9.1 hr); omega)) rfl fun r s b g => ?_
 have t := dh.lt2 hpl
 have k := (Below.size hB)
 replace hB := Ze hB b
 replace a := b.at a
 replace hpl := b.ow hpl
 rw [if_pos (tJ hr)] at g
 obtain ⟨xtn, rfl, htn⟩ := g
 replace htn := dh.mono htn k
 refine Zw (.tuple #[xtn, .int .i64 0]) rfl <| Zv (dG rfl) <| Zv (dJ rfl) <| Zw xtn rfl <| Zw (.int .i64 0) rfl <| cT <| Zr <| Zw xtn rfl <| Zl rfl fX (Below.atI hB hbe) rfl <| Zi rfl <| Zv (rX (h0 := rfl) (k0 := dN.cells htn.sl) (h1 := rfl) (k1 := rfl) (h2 := rfl) (k2 := rfl) (h3 := rfl) (k3 := rfl) (c0_0 := xtn) (c1_0 := .int .i64 2) (c2_0 := .int .i64 _) (c3_0 := .int .i64 _)) <| Zw (.int .i64 0) rfl <| Zy (dg rfl rfl eW rfl a rfl (by exact jO (dh.one htn)) fun u c l => ?_)
 replace hB := Zg hB c i
 replace hpl := dh.grownAt hpl a c Dd
 replace htn := dh.grownAt htn a c Dd
 replace a := l
 refine Zw (.int .i64 0) rfl <| cT <| Zt <| fz rfl eW a rfl (v1 := .int .i64 0) rfl ⟨hB, ?_⟩
 exact ⟨_, rfl, htn⟩
theorem jE (S : Sp) (onV mayV : Value) (b0 b1 : Int) (w : World) (hon : dN gp 4 w onV S.on) (hmay : dN gp 4 w mayV S.may) (hs : dO S = true → S.n ≤ 4 ∧ S.on.length ≤ 3) :
    Fn Tryz.prog 9 #[.agg #[.int .i64 S.n, onV, mayV], .agg #[.int .i64 b0, .int .i64 b1]] w fun v w' => if dO S = true ∧ m6 b0 b1 then ∃ x how why sp Rr, v = .tuple #[.agg #[x, .int .i64 how, .int .i64 why, .int .i64 sp], .int .i64 0] ∧ dh fJ 3 42 w' w.heap.size x Rr ∧ FI b0.toNat b1.toNat S how why sp Rr else v = .tuple #[.agg #[.slice none 0 0, .int .i64 0, .int .i64 0, .int .i64 0], .int .i64 1] := by
 refine dq (n := 56) Tryz.func9 rfl rfl (Nat.le_of_ble_eq_true rfl) ?_
 have hB : Below w.heap.size w w := Below.refl _ _
 refine Zr <| Zy (dY (c := #[_, _, _]) rfl rfl fun m W3 Q Y b => ?_)
 have aC := ZO Q hB
 clear Q
 replace hB := Ze hB Y
 refine Zy (dY (c := #[_, _]) rfl rfl fun aD W6 U V d => ?_)
 have aE := ZO U hB
 clear U
 replace hB := Ze hB V
 replace b := V.at b
 refine Zy (dt kS rfl fun aF W9 W G a => ?_)
 have o := ZO W hB
 clear W
 replace hB := Ze hB G
 replace b := G.at b
 replace d := G.at d
 refine Zw (.int .i64 0) rfl <| cT <| cY fun aG Z => Zr <| Zv (db rfl ez rfl b) <| ZC (vs := [.agg #[_, _, _]]) rJ (iR S _ _  _ (Below.slT hB hon) (Below.slT hB hmay) ) rfl fun aH aI D aa => ?_
 replace hB := Ze hB D
 replace b := D.at b
 replace d := D.at d
 replace a := D.at a
 obtain rfl := aa
 refine Zv (eX rfl) <| ZX rfl (fun H => ?_) fun H => ?_
 refine Zs <| Zs <| Zs <| Zw (.bool true) rfl <| Zw (.bool true) rfl <| Zs <| Zs <| Zs <| Zw (.bool true) rfl <| Zw (.bool true) rfl <| Zs <| Zs <| Zs <| Zw (.bool true) rfl ?_
 refine Zw (.bool true) rfl <| Zs <| Zs <| Zs <| Zw (.bool true) rfl <| cT <| dB rfl ?_
 have hno : ¬ (dO S = true ∧ m6 b0 b1) := fun h => by rw [i6 H] at h; exact Bool.noConfusion h.1
 refine Zr <| Zv (jr ) <| Zy (dg rfl rfl eW rfl a rfl rfl fun aJ I ab => ?_)
 replace hB := Zg hB I o
 replace b := At.grownAt b a I Dd
 replace d := At.grownAt d a I Dd
 replace a := ab
 refine Zw (.int .i64 1) rfl <| cT <| Zt <| fz rfl eW a rfl (v1 := .int .i64 1) rfl ⟨hB, ?_⟩
 first | rw [if_neg hno] | (rw [if_pos ⟨hr, hm⟩]; first | exact ⟨_, _, _, _, _, rfl, k, AR hfo3_2 i⟩ | exact ⟨_, _, _, _, _, rfl, l, ua hfo3_2 j i⟩ | exact ⟨_, _, _, _, _, rfl, e, CE hfo3_2 j⟩)
 refine Zf rfl nU <| Zl rfl du d rfl <| Zv (dM rfl rfl) <| Zb rfl <| ZX rfl (fun ac => ?_) fun ac => ?_
 refine Zs <| Zs <| Zs <| Zw (.bool true) rfl <| Zw (.bool true) rfl <| Zs <| Zs <| Zs <| Zw (.bool true) rfl <| Zw (.bool true) rfl <| Zs <| Zs <| Zs <| Zw (.bool true) rfl ?_
 refine cT <| dB rfl ?_
 have hno : ¬ (dO S = true ∧ m6 b0 b1) := fun h => by have := h.2; unfold m6 at this; omega
 refine Zr <| Zv (jr ) <| Zy (dg rfl rfl eW rfl a rfl rfl fun aK J ad => ?_)
 replace hB := Zg hB J o
 replace b := At.grownAt b a J Dd
 replace d := At.grownAt d a J Dd
 replace a := ad
 refine Zw (.int .i64 1) rfl <| cT <| Zt <| fz rfl eW a rfl (v1 := .int .i64 1) rfl ⟨hB, ?_⟩
 first | rw [if_neg hno] | (rw [if_pos ⟨hr, hm⟩]; first | exact ⟨_, _, _, _, _, rfl, k, AR hfo3_2 i⟩ | exact ⟨_, _, _, _, _, rfl, l, ua hfo3_2 j i⟩ | exact ⟨_, _, _, _, _, rfl, e, CE hfo3_2 j⟩)
 refine Zf rfl nU <| Zl rfl du d rfl <| Zv (iE rfl rfl) <| Zb rfl <| ZX rfl (fun ae => ?_) fun ae => ?_
 refine Zs <| Zs <| Zs <| Zw (.bool true) rfl <| Zw (.bool true) rfl <| Zs <| Zs <| Zs <| Zw (.bool true) rfl <| cT <| dB rfl ?_
 have hno : ¬ (dO S = true ∧ m6 b0 b1) := fun h => by have := h.2; unfold m6 at this; omega
 refine Zr <| Zv (jr ) <| Zy (dg rfl rfl eW rfl a rfl rfl fun aL K af => ?_)
 replace hB := Zg hB K o
 replace b := At.grownAt b a K Dd
 replace d := At.grownAt d a K Dd
 replace a := af
 refine Zw (.int .i64 1) rfl <| cT <| Zt <| fz rfl eW a rfl (v1 := .int .i64 1) rfl ⟨hB, ?_⟩
 first | rw [if_neg hno] | (rw [if_pos ⟨hr, hm⟩]; first | exact ⟨_, _, _, _, _, rfl, k, AR hfo3_2 i⟩ | exact ⟨_, _, _, _, _, rfl, l, ua hfo3_2 j i⟩ | exact ⟨_, _, _, _, _, rfl, e, CE hfo3_2 j⟩)
 refine Zf rfl iq <| Zl rfl du d rfl <| Zv (dM rfl rfl) <| Zb rfl <| ZX rfl (fun ag => ?_) fun ag => ?_
 refine Zs <| Zs <| Zs <| Zw (.bool true) rfl <| cT <| dB rfl ?_
 have hno : ¬ (dO S = true ∧ m6 b0 b1) := fun h => by have := h.2; unfold m6 at this; omega
 refine Zr <| Zv (jr ) <| Zy (dg rfl rfl eW rfl a rfl rfl fun aM L ah => ?_)
 replace hB := Zg hB L o
 replace b := At.grownAt b a L Dd
 replace d := At.grownAt d a L Dd
 replace a := ah
 refine Zw (.int .i64 1) rfl <| cT <| Zt <| fz rfl eW a rfl (v1 := .int .i64 1) rfl ⟨hB, ?_⟩
 first | rw [if_neg hno] | (rw [if_pos ⟨hr, hm⟩]; first | exact ⟨_, _, _, _, _, rfl, k, AR hfo3_2 i⟩ | exact ⟨_, _, _, _, _, rfl, l, ua hfo3_2 j i⟩ | exact ⟨_, _, _, _, _, rfl, e, CE hfo3_2 j⟩)
 refine Zf rfl iq <| Zl rfl du d rfl <| Zv (iE rfl rfl) <| Zb rfl <| cT <| ZQ rfl (fun ai => ?_) fun ai => ?_
 have hno : ¬ (dO S = true ∧ m6 b0 b1) := fun h => by have := h.2; unfold m6 at this; omega
 refine Zr <| Zv (jr ) <| Zy (dg rfl rfl eW rfl a rfl rfl fun aN M aj => ?_)
 replace hB := Zg hB M o
 replace b := At.grownAt b a M Dd
 replace d := At.grownAt d a M Dd
 replace a := aj
 refine Zw (.int .i64 1) rfl <| cT <| Zt <| fz rfl eW a rfl (v1 := .int .i64 1) rfl ⟨hB, ?_⟩
 first | rw [if_neg hno] | (rw [if_pos ⟨hr, hm⟩]; first | exact ⟨_, _, _, _, _, rfl, k, AR hfo3_2 i⟩ | exact ⟨_, _, _, _, _, rfl, l, ua hfo3_2 j i⟩ | exact ⟨_, _, _, _, _, rfl, e, CE hfo3_2 j⟩)
 refine c7 <| Z _ _ ?_
 have hr : dO S = true := ic H
 have hm : m6 b0 b1 := ⟨⟨by omega, by omega⟩, by omega, by omega⟩
 obtain ⟨R, T, rfl, rfl, hbd⟩ := Qe hm
 refine Zr <| Zv (db rfl ez rfl b) <| Zv (db rfl o4 rfl d) <| ZC (vs := [.agg #[_, _, _], .agg #[_, _]]) Px (wn S _ _ R T _ (Below.slT hB hon) (Below.slT hB hmay) hr hbd.2.1 hbd.2.2 (hs hr).1 (hs hr).2) rfl fun aO aP E ak => ?_
 have al := (Below.size hB)
 replace hB := Ze hB E
 replace b := E.at b
 replace d := E.at d
 replace a := E.at a
 obtain ⟨x3_2, how3_2, sp3_2, e3_2, Rr3_2, rfl, e, hfo3_2⟩ := ak
 replace e := dh.mono e al
 refine Zw (.tuple #[.agg #[x3_2, .int .i64 how3_2, .int .i64 0, .int .i64 sp3_2], .int .i64 e3_2]) rfl <| Zv (dG rfl) <| Zv (dJ rfl) <| Zy (dt kS rfl fun aQ aR N C g => ?_)
 have ao := ZO N hB
 have F := Zn N a.lt
 clear N
 replace hB := Ze hB C
 replace b := C.at b
 replace d := C.at d
 replace a := C.at a
 replace e := C.ow e
 refine Zy (dt NU rfl fun p aS X y f => ?_)
 have ap := ZO X hB
 clear X
 replace hB := Ze hB y
 replace b := y.at b
 replace d := y.at d
 replace a := y.at a
 replace e := y.ow e
 replace g := y.at g
 refine Zy (dg rfl rfl eW rfl g rfl (by exact jO (dh.one e)) fun aT z aq => ?_)
 replace hB := Zg hB z ao
 replace b := At.grownAt b g z Dd
 replace d := At.grownAt d g z Dd
 replace a := At.grownNe a F z
 replace e := dh.grownAt e g z Dd
 replace f := At.grownAt f g z Dd
 replace g := aq
 refine Zy (eH (v := .int .i64 e3_2) rfl rfl fX rfl f (by exact Nat.zero_lt_one) fun aU A ar => ?_)
 replace hB := Zg hB A ap
 replace b := At.grownAt b f A Dd
 replace d := At.grownAt d f A Dd
 replace a := At.grownAt a f A Dd
 replace e := dh.grownAt e f A Dd
 replace g := At.grownAt g f A Dd
 replace f := ar
 replace f : At _ _ #[_] _ := f
 refine cT <| Zr <| Zv (ia (vs := #[.pointer (some ⟨m, 0, none⟩), .pointer (some ⟨p, 0, none⟩)]) (by simp only [List.map_toArray, List.map_cons, List.map_nil]; rfl)) <| Zw (.func (.func 20) #[] #[.pointer (some ⟨m, 0, none⟩), .pointer (some ⟨p, 0, none⟩)]) rfl <| cT <| cY fun aV au => Zr <| ZL (.int .i64 e3_2) rfl fX f rfl <| cT <| c9 <| Zr <| Zv (dS rfl rfl) <| Zb rfl <| cT ?_
 refine ZQ rfl (fun j => ?_) fun j => ?_
 refine Zr <| Zv (db rfl eW rfl g) <| Zy (dg rfl rfl eW rfl a rfl (by exact jO (dh.one e)) fun aW B av => ?_)
 replace hB := Zg hB B o
 replace b := At.grownAt b a B Dd
 replace d := At.grownAt d a B Dd
 replace e := dh.grownAt e a B Dd
 replace g := At.grownNe g (Ne.symm F) B
 replace f := At.grownAt f a B Dd
 replace a := av
 refine Zw (.int .i64 0) rfl <| cT <| Zt <| fz rfl eW a rfl (v1 := .int .i64 0) rfl ⟨hB, ?_⟩
 first | rw [if_neg hno] | (rw [if_pos ⟨hr, hm⟩]; first | exact ⟨_, _, _, _, _, rfl, k, AR hfo3_2 i⟩ | exact ⟨_, _, _, _, _, rfl, l, ua hfo3_2 j i⟩ | exact ⟨_, _, _, _, _, rfl, e, CE hfo3_2 j⟩)
 refine Zr <| Zv (dS rfl rfl) <| Zb rfl <| cT <| ZQ rfl (fun i => ?_) fun i => ?_
 have O := Below.slT hB hon
 have P := Below.slT hB hmay
 refine Zr <| Zw (.func (.func 20) #[] #[.pointer (some ⟨m, 0, none⟩), .pointer (some ⟨p, 0, none⟩)]) rfl <| Zf rfl iq <| Zl rfl du d rfl ?_
 refine qP (dd := some 49) rfl rfl rfl (kh (q := 20) (first := #[]) (cap := #[.pointer (some ⟨m, 0, none⟩), .pointer (some ⟨p, 0, none⟩)]) (vs := #[.int .i64 _, .pointer (some ⟨m, 0, none⟩), .pointer (some ⟨p, 0, none⟩)]) rfl HP (by simp only [List.map_toArray, List.map_cons, List.map_nil, List.append_toArray, List.nil_append, List.cons_append]; rfl)) (mY S _ _ _ _ _ _ _ O P hr b f) (fun aX aY r aw => ?_)
 have ax := (Below.size hB)
 replace hB := Ze hB r
 replace b := r.at b
 replace d := r.at d
 replace a := r.at a
 replace e := r.ow e
 replace g := r.at g
 replace f := r.at f
 obtain ⟨x9_3, rfl, k⟩ := aw
 replace k := dh.mono k ax
 refine Zv (dG rfl) <| Zv (dJ rfl) <| Zy (dg rfl rfl eW rfl a rfl (by exact jO (dh.one k)) fun aZ s ay => ?_)
 replace hB := Zg hB s o
 replace b := At.grownAt b a s Dd
 replace d := At.grownAt d a s Dd
 replace e := dh.grownAt e a s Dd
 replace g := At.grownNe g (Ne.symm F) s
 replace f := At.grownAt f a s Dd
 replace k := dh.grownAt k a s Dd
 replace a := ay
 refine Zw (.int .i64 0) rfl <| cT <| Zt <| fz rfl eW a rfl (v1 := .int .i64 0) rfl ⟨hB, ?_⟩
 first | rw [if_neg hno] | (rw [if_pos ⟨hr, hm⟩]; first | exact ⟨_, _, _, _, _, rfl, k, AR hfo3_2 i⟩ | exact ⟨_, _, _, _, _, rfl, l, ua hfo3_2 j i⟩ | exact ⟨_, _, _, _, _, rfl, e, CE hfo3_2 j⟩)
 refine c7 <| au _ _ ?_
 have O := Below.slT hB hon
 have P := Below.slT hB hmay
 refine Zr <| Zw (.func (.func 20) #[] #[.pointer (some ⟨m, 0, none⟩), .pointer (some ⟨p, 0, none⟩)]) rfl ?_
 refine qP (dd := some 53) rfl rfl rfl (kh (q := 20) (first := #[]) (cap := #[.pointer (some ⟨m, 0, none⟩), .pointer (some ⟨p, 0, none⟩)]) (vs := #[.int .i64 0, .pointer (some ⟨m, 0, none⟩), .pointer (some ⟨p, 0, none⟩)]) rfl HP (by simp only [List.map_toArray, List.map_cons, List.map_nil, List.append_toArray, List.nil_append, List.cons_append]; rfl)) (mY S _ _ _ _ _ _ _ O P hr b f) (fun a0 a1 t az => ?_)
 have aA := (Below.size hB)
 replace hB := Ze hB t
 replace b := t.at b
 replace d := t.at d
 replace a := t.at a
 replace e := t.ow e
 replace g := t.at g
 replace f := t.at f
 obtain ⟨x10_1, rfl, l⟩ := az
 replace l := dh.mono l aA
 refine Zv (dG rfl) <| Zv (dJ rfl) <| Zy (dg rfl rfl eW rfl a rfl (by exact jO (dh.one l)) fun a2 u aB => ?_)
 replace hB := Zg hB u o
 replace b := At.grownAt b a u Dd
 replace d := At.grownAt d a u Dd
 replace e := dh.grownAt e a u Dd
 replace g := At.grownNe g (Ne.symm F) u
 replace f := At.grownAt f a u Dd
 replace l := dh.grownAt l a u Dd
 replace a := aB
 refine Zw (.int .i64 0) rfl <| cT <| Zt <| fz rfl eW a rfl (v1 := .int .i64 0) rfl ⟨hB, ?_⟩
 first | rw [if_neg hno] | (rw [if_pos ⟨hr, hm⟩]; first | exact ⟨_, _, _, _, _, rfl, k, AR hfo3_2 i⟩ | exact ⟨_, _, _, _, _, rfl, l, ua hfo3_2 j i⟩ | exact ⟨_, _, _, _, _, rfl, e, CE hfo3_2 j⟩)
end
section
open Go Go.RowKit
section
variable {S : Sp}
theorem MT {R : Nat} {e : Int} (h : La R S e) (hb : (2 ^ S.may.length - 1) * bO S < R) : e = 0 := by
 obtain ⟨ns', id, h1, _, _⟩ := h
 obtain ⟨c, hc, s⟩ := h1.1.st
 exact (s.ok (by rw [List.length_nil]; omega)).1
theorem RL : ∀ n m : Nat, n ≤ 3 → m ≤ 2 → (2 ^ m - 1) * (2 ^ m * (tC n + 2 * n * 3 ^ n) + 24 + rz (16 + m) * 3 ^ n + (16 + m) * 3 ^ n) < 20000 := by
 intro n m hn hm
 have hn' : n = 0 ∨ n = 1 ∨ n = 2 ∨ n = 3 := by omega
 have hm' : m = 0 ∨ m = 1 ∨ m = 2 := by omega
 rcases hn' with rfl | rfl | rfl | rfl <;> rcases hm' with rfl | rfl | rfl <;> decide +kernel
theorem OY (hn : S.n ≤ 3) (hm : S.may.length ≤ 2) : (2 ^ S.may.length - 1) * bO S < 20000 := RL (nN S) S.may.length (by unfold nN; omega) hm
theorem KW (hr : dO S = true) (hne : ∃ r, r ∈ eK S) {e : Int} (h : La 0 S e) : ¬ e = 0 := fun he => by
 obtain ⟨ns', id, h1, h2, _⟩ := h
 obtain ⟨r, hr2⟩ := hne
 have hn : ns' = [] := List.eq_nil_of_length_eq_zero (by omega)
 have hM := h1.1.m he
 have hv := h1.1.v
 have hx : Gx S (2 ^ S.may.length) (AY r) := (BQ hr).2 ⟨r, hr2, rfl⟩
 rw [← hM] at hx
 subst hn
 obtain ⟨o, o1, o2, y, _, e2⟩ := (BQ hr).2 ⟨r, hr2, rfl⟩
 rw [List.length_nil] at hv
 have h01 : id = 0 ∨ id = 1 := by omega
 rcases h01 with rfl | rfl
 ·exact Hl _ _ hx
 ·have hx' : AY r ∈ dR [] 1 := hx
  rw [mO] at hx'
  have := List.mem_singleton.1 hx'
  omega
theorem LE (hl : (eK S).length ≤ 4000) {T : Nat} (h : OK S T) : T + 1 < 2 ^ (eK S).length := by
 obtain ⟨L, ks, h1, h2⟩ := h
 have h3 := sC h1.sub
 have h4 := QM (kc (S := S) hl)
 exact Nat.lt_of_lt_of_le h2 (Nat.pow_le_pow_right (by decide) (Nat.le_trans h3 h4))
end
def KQ : Sp := ⟨2, [14], [14]⟩
theorem pM : dO KQ = true := by decide +kernel
theorem w5 : (eK KQ).length = 2 := by decide +kernel
theorem MD : (ju KQ (kE KQ)).length = 2 := by decide +kernel
theorem PF : gW KQ (eK KQ) = true := F4 pM
theorem Jb : gW KQ [] = false ∧ gW KQ [(eK KQ).getD 0 ⟨⟨0, 0⟩, 0⟩] = false ∧ gW KQ [(eK KQ).getD 1 ⟨⟨0, 0⟩, 0⟩] = false := by decide +kernel
theorem OH {Rr : List Rw} (h : Kn KQ Rr) : Rr.length = 2 := by
 have h1 := h.min _ PF
 rw [w5] at h1
 have hc := h.cov
 have hs := h.sub
 match Rr, h1, hc, hs with
 | [], _, hc, _ => rw [Jb.1] at hc; cases hc
 | [r], _, hc, hs =>
  have hm : r ∈ eK KQ := hs.subset (List.mem_singleton.2 rfl)
  obtain ⟨j, hj, rfl⟩ := fq (d := (⟨⟨0, 0⟩, 0⟩ : Rw)) hm
  rw [w5] at hj
  have : j = 0 ∨ j = 1 := by omega
  rcases this with rfl | rfl
  ·rw [Jb.2.1] at hc; cases hc
  ·rw [Jb.2.2] at hc; cases hc
 | [_, _], _, _, _ => rfl
 | _ :: _ :: _ :: _, h1, _, _ => simp only [List.length_cons] at h1; omega
theorem RS {how why sp : Int} {Rr : List Rw} (h : FI 20000 1000000 KQ how why sp Rr) : how = 1 ∧ why = 0 ∧ Rr.length = 2 := by
 rcases h with ⟨h1, h2, _, _, _, h3⟩ | ⟨_, _, ⟨_, _, h⟩ | ⟨_, _, _, h⟩⟩
 ·exact ⟨h1, h2, OH h3⟩
 ·exact absurd (MT h (OY (by decide) (by decide))) (by decide)
 ·have := LE (by rw [w5]; decide) h
  rw [w5] at this
  omega
theorem RM {how why sp : Int} {Rr : List Rw} (h : FI 0 0 KQ how why sp Rr) : how = 2 ∧ why = 5 ∧ Rr.length = 2 := by
 have hne : ∃ r, r ∈ eK KQ := ⟨_, dV (d := (⟨⟨0, 0⟩, 0⟩ : Rw)) (i := 0) (by rw [w5]; decide)⟩
 rcases h with ⟨_, _, _, _, h, _⟩ | ⟨h1, h2, ⟨h3, _, _⟩ | ⟨_, _, h, _⟩⟩
 ·exact absurd rfl (KW pM hne h)
 ·exact ⟨h1, h3, by rw [h2]; exact MD⟩
 ·exact absurd rfl (KW pM hne h)
def kU (S : Sp) : Bool := nJ S || (dO S && (decide (4 < S.n) || decide (3 < S.on.length)))
section
variable {S : Sp} {b0 b1 : Int}
theorem F5 (h : nJ S = true) : Value.bool true = .bool (kU S) := by unfold kU; rw [h]; rfl
theorem FA (h : nJ S = false) (hr : dO S = true) (h4 : S.n > 4) : Value.bool true = .bool (kU S) := by unfold kU; rw [h, hr, decide_eq_true (show 4 < S.n from h4)]; rfl
theorem EV (h : nJ S = false) (hr : dO S = true) (h4 : ¬ S.n > 4) : Value.bool (decide ((S.on.length : Int) > 3)) = .bool (kU S) := by
 unfold kU
 rw [h, hr, decide_eq_false (show ¬ 4 < S.n from h4), Bool.false_or, Bool.true_and, Bool.false_or]
 congr 1
 rw [decide_eq_decide]; omega
theorem F9 (h : nJ S = false) (hr : dO S = false) : Value.bool false = .bool (kU S) := by unfold kU; rw [h, hr]; rfl
theorem EB (h : ¬ b0 ≥ 0) : Value.bool false = .bool (decide (m6 b0 b1)) := congrArg Value.bool (decide_eq_false fun k => h k.1.1).symm
theorem Fv (h : ¬ b0 ≤ 20000) : Value.bool false = .bool (decide (m6 b0 b1)) := congrArg Value.bool (decide_eq_false fun k => h k.1.2).symm
theorem Fl (h : ¬ b1 ≥ 0) : Value.bool false = .bool (decide (m6 b0 b1)) := congrArg Value.bool (decide_eq_false fun k => h k.2.1).symm
theorem E7 (h : b0 ≥ 0) (h1 : b0 ≤ 20000) (h2 : b1 ≥ 0) : Value.bool (decide (b1 ≤ 1000000)) = .bool (decide (m6 b0 b1)) := congrArg Value.bool (decide_eq_decide.2 ⟨fun k => ⟨⟨h, h1⟩, h2, k⟩, fun k => k.2.2⟩)
end
theorem ng {S : Sp} (hr : dO S = true) (h : kU S = false) : S.n ≤ 4 ∧ S.on.length ≤ 3 := by
 unfold kU at h
 rw [hr, Bool.or_eq_false_iff, Bool.true_and, Bool.or_eq_false_iff, decide_eq_false_iff_not, decide_eq_false_iff_not] at h
 omega
end
section
open Go Go.RowKit
section
variable {S : Sp}
end
section
variable {S : Sp} {l : List Rw}
end
section
variable {S : Sp} {b0 b1 how why sp : Int} {R T : Nat} {Rr : List Rw}
theorem zh (h : FI R T S how why sp Rr) (h1 : how = 1) : Kn S Rr := by
 rcases h with h | h
 ·exact h.2.2.2.2.2
 ·have := h.1; omega
theorem pd (h : FI R T S how why sp Rr) (h2 : ¬ how = 2) : how = 1 ∧ why = 0 := by
 rcases h with h | h
 ·exact ⟨h.1, h.2.1⟩
 ·exact absurd h.1 h2
theorem C5 (h : FI R b1.toNat S how why sp Rr) (hb : 0 ≤ b1) (h2 : how = 2) : (why = 5 ∧ sp = 0) ∨ (why = 6 ∧ sp = b1) := by
 rcases h with h | ⟨_, _, h | h⟩
 ·have := h.1; omega
 ·exact .inl ⟨h.1, h.2.1⟩
 ·exact .inr ⟨h.1, by have := h.2.1; omega⟩
theorem Ny (h : FI R b1.toNat S how why sp Rr) (hb : 0 ≤ b1) : 0 ≤ sp ∧ sp ≤ b1 := by
 rcases h with h | h
 ·have := h.2.2; omega
 ·have := C5 (.inr h) hb h.1; omega
theorem FN (hr : dO S = true) (h : FI R T S how why sp Rr) (h2 : how = 2) : oJ S Rr = true := by
 rcases h with h | ⟨_, rfl, _⟩
 ·have := h.1; omega
 ·exact A6 (tJ hr)
theorem yI (hr : dO S = true) (h : FI R T S how why sp Rr) : gW S Rr = true := by
 rcases h with h | ⟨_, rfl, _⟩
 ·exact h.2.2.2.2.2.cov
 ·exact AP (tJ hr)
theorem EW (hr : dO S = true) (h : FI R T S how why sp Rr) : gF Rr := by
 rcases h with h | ⟨_, rfl, _⟩
 ·exact fun x hx => HE hr x (h.2.2.2.2.2.sub.subset hx)
 ·exact O7 (Ga hr)
theorem H8 (hr : dO S = true) (h4 : S.n ≤ 4) (h3 : S.on.length ≤ 3) (h : FI R T S how why sp Rr) : Rr.length ≤ 100000 := by
 rcases h with h | ⟨_, rfl, _⟩
 ·have h1 := h.2.2.2.2.2.sub.length_le
  have h5 := qY hr h4 h3
  omega
 ·have h1 := Iz S (kE S)
  have h5 := yA hr
  omega
end
section
variable {l R : List Rw} {i : Nat}
theorem Mb (h1 : kd l R i < R.length) (h : l.getD i ⟨⟨0, 0⟩, 0⟩ = R.getD (kd l R i) ⟨⟨0, 0⟩, 0⟩) : ((kd l R i : Nat) : Int) + 1 = ((kd l R (i + 1) : Nat) : Int) := by
 rw [kd, if_pos ⟨h1, h⟩]; rfl
theorem L5 (h : ¬ l.getD i ⟨⟨0, 0⟩, 0⟩ = R.getD (kd l R i) ⟨⟨0, 0⟩, 0⟩) : ((kd l R i : Nat) : Int) = ((kd l R (i + 1) : Nat) : Int) := by
 rw [kd, if_neg fun k => h k.2]
theorem z6 (hs : R.Sublist l) (hi : i ≤ l.length) (h : ¬ (i : Int) < (l.length : Int) ∨ ¬ ((kd l R i : Nat) : Int) < (R.length : Int)) : ((kd l R i : Nat) : Int) = (R.length : Int) := by
 rcases h with h | h
 ·obtain rfl : i = l.length := by omega
  rw [Kd hs]
 ·have := Am l R i
  omega
end
section
variable {P : Program} {f : Nat → Value} {w : World} {d : Option Nat} {ty : TypeId} {ps : String} {af : Array Edge} {g : Option (Nat × Bool)} {x y : Operand} {t t2 : TypeId}
end
end
section
open Go Go.RowKit
theorem PK : dD Tryz.prog 15 = true := by kernel_rfl
theorem ww : dD Tryz.prog 10 = true := by kernel_rfl
theorem sE {f : Nat → Value} {w : World} {d : Option Nat} {ty : TypeId} {ps : String} {af : Array Edge} {g : Option (Nat × Bool)} {x0 : Operand} {c0_0 : Value} (h0 : dP f x0 = c0_0) (k0 : c0_0.cells = #[c0_0]) :
    (execOp (dP f) ⟨d, .build 49 #[(0, x0)], ty, ps, af, g⟩).run Tryz.prog w = .ok (.value (.agg #[c0_0, .int .u64 0, .int .u64 0, .int .u64 0])) w := by
  obtain ⟨i0, hi0, hz0⟩ := Option.bind_eq_some_iff.1 (show (Tryz.prog.info? 49).bind (·.zero) = _ from eR)
  obtain ⟨j47, hj47, hs47⟩ := Option.map_eq_some_iff.1 yh
  simp [execOp, h0, k0, Instr.build, zeroValue, typeInfo, sizeOf, hi0, hz0, run_underlying Tryz.underlying49, Instr.fill, fe, hj47, hs47]
theorem Jg : eO Tryz.prog 24 = some (.agg #[.int .i64 0, .slice none 0 0, .slice none 0 0]) := by kernel_rfl
theorem Gp : (Tryz.prog.info? 22).map (·.size) = some 1 := by kernel_rfl
theorem tT {f : Nat → Value} {w : World} {d : Option Nat} {ty : TypeId} {ps : String} {af : Array Edge} {g : Option (Nat × Bool)} {x0 x1 x2 : Operand} {c0_0 c1_0 c2_0 : Value} (h0 : dP f x0 = c0_0) (k0 : c0_0.cells = #[c0_0]) (h1 : dP f x1 = c1_0) (k1 : c1_0.cells = #[c1_0]) (h2 : dP f x2 = c2_0) (k2 : c2_0.cells = #[c2_0]) :
    (execOp (dP f) ⟨d, .build 24 #[(0, x0), (1, x1), (2, x2)], ty, ps, af, g⟩).run Tryz.prog w = .ok (.value (.agg #[c0_0, c1_0, c2_0])) w := by
  obtain ⟨i0, hi0, hz0⟩ := Option.bind_eq_some_iff.1 (show (Tryz.prog.info? 24).bind (·.zero) = _ from Jg)
  obtain ⟨j3, hj3, hs3⟩ := Option.map_eq_some_iff.1 iu
  obtain ⟨j22, hj22, hs22⟩ := Option.map_eq_some_iff.1 Gp
  simp [execOp, h0, k0, h1, k1, h2, k2, Instr.build, zeroValue, typeInfo, sizeOf, hi0, hz0, run_underlying Tryz.underlying24, Instr.fill, fe, hj3, hs3, hj22, hs22]
theorem Fe : dD Tryz.prog 9 = true := by kernel_rfl
theorem ir : fy Tryz.prog 32 1 = some 1 := by kernel_rfl
theorem gN : fy Tryz.prog 32 2 = some 2 := by kernel_rfl
theorem QI : dD Tryz.prog 7 = true := by kernel_rfl
theorem nG : dD Tryz.prog 8 = true := by kernel_rfl
theorem zi : dD Tryz.prog 11 = true := by kernel_rfl
theorem ip : fy Tryz.prog 32 3 = some 3 := by kernel_rfl
theorem IL : dD Tryz.prog 13 = true := by kernel_rfl
theorem oL (S : Sp) (onV mayV : Value) (w : World) (hon : dN gp 4 w onV S.on) (hmay : dN gp 4 w mayV S.may) :
    Fn Tryz.prog 15 #[.agg #[.int .i64 S.n, onV, mayV]] w fun v w' => v = .bool (nJ S) := by
 refine dq (n := 13) Tryz.func15 rfl rfl (Nat.le_of_ble_eq_true rfl) ?_
 have hB : Below w.heap.size w w := Below.refl _ _
 refine Zr <| Zy (dY (c := #[_, _, _]) rfl rfl fun f W3 b e d => ?_)
 have g := ZO b hB
 clear b
 replace hB := Ze hB e
 refine Zw (.bool false) rfl <| cT <| Zr <| Zf rfl fE <| ZL onV rfl eE d rfl <| Zv (dz (v := onV) rfl (Below.slT hB hon) eg) <| Zv (iE rfl rfl) <| ZX rfl (fun a => ?_) fun a => ?_
 refine Zs <| Zs <| Zs <| Zs <| Zw (.bool true) rfl <| Zw (.bool true) rfl <| cT <| Zt <| dC (v := .bool true) rfl ⟨hB, ?_⟩
 first | exact congrArg Value.bool (F7 a) | exact congrArg Value.bool (F1 a)
 refine Zf rfl fS <| ZL mayV rfl eE d rfl <| Zv (dz (v := mayV) rfl (Below.slT hB hmay) eg) <| Zv (iE rfl rfl) <| Zb rfl <| Zb rfl <| cT <| Zt <| dC (v := .bool _) rfl ⟨hB, ?_⟩
 first | exact congrArg Value.bool (F7 a) | exact congrArg Value.bool (F1 a)
theorem oE (S : Sp) (onV mayV : Value) (w : World) (hon : dN gp 4 w onV S.on) (hmay : dN gp 4 w mayV S.may) :
    Fn Tryz.prog 7 #[.agg #[.int .i64 S.n, onV, mayV]] w fun v w' => v = .bool (kU S) := by
 refine dq (n := 20) Tryz.func7 rfl rfl (Nat.le_of_ble_eq_true rfl) ?_
 have hB : Below w.heap.size w w := Below.refl _ _
 refine Zr <| Zy (dY (c := #[_, _, _]) rfl rfl fun l W3 f i e => ?_)
 have m := ZO f hB
 clear f
 replace hB := Ze hB i
 refine Zw (.bool false) rfl <| cT <| Zr <| Zv (db rfl ez rfl e) <| ZC (vs := [.agg #[_, _, _]]) PK (oL S _ _  _ (Below.slT hB hon) (Below.slT hB hmay) ) rfl fun o W8 g j => ?_
 replace hB := Ze hB g
 replace e := g.at e
 obtain rfl := j
 refine ZX rfl (fun a => ?_) fun a => ?_
 refine Zs <| Zs <| Zs <| Zs <| Zs <| Zs <| Zs <| Zs <| Zs <| Zs <| Zs <| Zs <| Zs <| Zw (.bool true) rfl ?_
 refine Zw (.bool true) rfl <| cT <| Zt <| dC (v := .bool true) rfl ⟨hB, ?_⟩
 first | exact F5 a | exact FA a b d | exact EV a b d | exact F9 a b
 refine Zv (db rfl ez rfl e) <| ZC (vs := [.agg #[_, _, _]]) ww (gk S _ _  _ (Below.slT hB hon) (Below.slT hB hmay) ) rfl fun p q h k => ?_
 replace hB := Ze hB h
 replace e := h.at e
 obtain rfl := k
 refine ZX rfl (fun b => ?_) fun b => ?_
 refine Zf rfl fU <| Zl rfl du e rfl <| Zv (iE rfl rfl) <| ZX rfl (fun d => ?_) fun d => ?_
 refine Zs <| Zs <| Zs <| Zs <| Zw (.bool true) rfl <| Zw (.bool true) rfl <| Zw (.bool true) rfl <| Zw (.bool true) rfl <| cT <| Zt <| dC (v := .bool true) rfl ⟨hB, ?_⟩
 first | exact F5 a | exact FA a b d | exact EV a b d | exact F9 a b
 refine Zf rfl fE <| ZL onV rfl eE e rfl <| Zv (dz (v := onV) rfl (Below.slT hB hon) eg) <| Zv (iE rfl rfl) <| Zb rfl <| Zb rfl <| Zb rfl <| Zb rfl <| cT <| Zt <| dC (v := .bool _) rfl ⟨hB, ?_⟩
 first | exact F5 a | exact FA a b d | exact EV a b d | exact F9 a b
 refine Zs <| Zs <| Zs <| Zs <| Zs <| Zs <| Zs <| Zs <| Zs <| Zw (.bool false) rfl <| Zw (.bool false) rfl <| Zw (.bool false) rfl <| cT <| Zt ?_
 refine dC (v := .bool false) rfl ⟨hB, ?_⟩
 first | exact F5 a | exact FA a b d | exact EV a b d | exact F9 a b
theorem iv (b0 b1 : Int) (w : World) :
    Fn Tryz.prog 11 #[.agg #[.int .i64 b0, .int .i64 b1]] w fun v w' => v = .bool (decide (m6 b0 b1)) := by
 refine dq (n := 21) Tryz.func11 rfl rfl (Nat.le_of_ble_eq_true rfl) ?_
 have hB : Below w.heap.size w w := Below.refl _ _
 refine Zr <| Zy (dY (c := #[_, _]) rfl rfl fun h W3 f g e => ?_)
 have i := ZO f hB
 clear f
 replace hB := Ze hB g
 refine Zw (.bool false) rfl <| cT <| Zr <| Zf rfl nU <| Zl rfl du e rfl <| Zv (mV rfl rfl) <| ZX rfl (fun a => ?_) fun a => ?_
 refine Zf rfl nU <| Zl rfl du e rfl <| Zv (ug rfl rfl) <| Zb rfl <| ZX rfl (fun b => ?_) fun b => ?_
 refine Zf rfl iq <| Zl rfl du e rfl <| Zv (mV rfl rfl) <| Zb rfl <| ZX rfl (fun d => ?_) fun d => ?_
 refine Zf rfl iq <| Zl rfl du e rfl <| Zv (ug rfl rfl) <| Zb rfl <| Zb rfl <| cT <| Zt <| dC (v := .bool _) rfl ⟨hB, ?_⟩
 first | exact EB a | exact Fv b | exact Fl d | exact E7 a b d
 refine Zs <| Zs <| Zs <| Zw (.bool false) rfl <| Zw (.bool false) rfl <| cT <| Zt <| dC (v := .bool false) rfl ⟨hB, ?_⟩
 first | exact EB a | exact Fv b | exact Fl d | exact E7 a b d
 refine Zs <| Zs <| Zs <| Zw (.bool false) rfl <| Zw (.bool false) rfl <| Zs <| Zs <| Zs <| Zw (.bool false) rfl <| Zw (.bool false) rfl <| cT <| Zt <| dC (v := .bool false) rfl ⟨hB, ?_⟩
 first | exact EB a | exact Fv b | exact Fl d | exact E7 a b d
 refine Zs <| Zs <| Zs <| Zw (.bool false) rfl <| Zw (.bool false) rfl <| Zs <| Zs <| Zs <| Zw (.bool false) rfl <| Zw (.bool false) rfl <| Zs <| Zs <| Zs <| Zw (.bool false) rfl ?_
 refine Zw (.bool false) rfl <| cT <| Zt <| dC (v := .bool false) rfl ⟨hB, ?_⟩
 first | exact EB a | exact Fv b | exact Fl d | exact E7 a b d
set_option maxRecDepth 10000 in
theorem dW  (w : World) :
    Fn Tryz.prog 8 #[] w fun v w' => v = .bool true := by
 refine dq (n := 61) Tryz.func8 rfl rfl (Nat.le_of_ble_eq_true rfl) ?_
 have hB : Below w.heap.size w w := Below.refl _ _
 refine Zr <| Zw (.bool false) rfl <| cT <| Zr <| Zv (v := eT 14) (sE (h0 := rfl) (k0 := rfl) (c0_0 := .int .u64 14)) <| Zy (ff (u := .agg #[_, _, _, _]) rfl eg vf rfl Dd Dd fun K W5 E L o => ?_)
 have M := ZO E hB
 clear E
 replace hB := Ze hB L
 refine Zv (v := eT 14) (sE (h0 := rfl) (k0 := rfl) (c0_0 := .int .u64 14)) <| Zy (ff (u := .agg #[_, _, _, _]) rfl eg vf rfl Dd Dd fun N W8 q F O => ?_)
 have P := ZO q hB
 have Z := Zn q o.lt
 clear q
 replace hB := Ze hB F
 replace o := F.at o
 have b := iL (enc := gp) (a := 14) o rfl rfl M
 have c := iL (enc := gp) (a := 14) O rfl rfl P
 refine Zv (tT (h0 := rfl) (k0 := rfl) (h1 := rfl) (k1 := rfl) (h2 := rfl) (k2 := rfl) (c0_0 := .int .i64 2) (c1_0 := .slice (some ⟨K, 0, none⟩) 1 1) (c2_0 := .slice (some ⟨N, 0, none⟩) 1 1)) <| Zy (dt Jg rfl fun aa ab G r d => ?_)
 have Q := ZO G hB
 clear G
 replace hB := Ze hB r
 replace b := r.ow b
 replace c := r.ow c
 refine Zy (dg rfl rfl ez rfl d rfl rfl fun ac s R => ?_)
 replace hB := Zg hB s Q
 replace b := dh.grownAt b d s Dd
 replace c := dh.grownAt c d s Dd
 replace d := R
 refine cT <| Zr <| Zv (db rfl ez rfl d) <| Zv (wX (h0 := rfl) (k0 := rfl) (h1 := rfl) (k1 := rfl) (c0_0 := .int .i64 20000) (c1_0 := .int .i64 1000000)) <| ZC (vs := [.agg #[_, _, _], .agg #[_, _]]) Fe (jE KQ _ _ 20000 1000000 _ b.sl c.sl (fun _ => by decide)) rfl fun ad ae p H => ?_
 have S := (Below.size hB)
 replace hB := Ze hB p
 replace b := p.ow b
 replace c := p.ow c
 replace d := p.at d
 rw [if_pos (show dO KQ = true ∧ m6 _ _ from ⟨pM, by decide⟩)] at H
 obtain ⟨x2_2, how2_2, why2_2, sp2_2, Rr2_2, rfl, f, hmo2_2⟩ := H
 replace f := dh.mono f S
 obtain ⟨rfl, rfl, hlen2_2⟩ := RS hmo2_2
 refine Zw (.tuple #[.agg #[x2_2, .int .i64 _, .int .i64 _, .int .i64 _], .int .i64 0]) rfl <| Zv (dG rfl) <| Zv (dJ rfl) <| Zy (dt kS rfl fun af ag I l e => ?_)
 have T := ZO I hB
 clear I
 replace hB := Ze hB l
 replace b := l.ow b
 replace c := l.ow c
 replace d := l.at d
 replace f := l.ow f
 refine Zy (dg rfl rfl eW rfl e rfl (by exact jO (dh.one f)) fun ah m U => ?_)
 replace hB := Zg hB m T
 replace b := dh.grownAt b e m Dd
 replace c := dh.grownAt c e m Dd
 replace d := At.grownAt d e m Dd
 replace f := dh.grownAt f e m Dd
 replace e := U
 refine Zw (.int .i64 0) rfl <| cT <| Zr <| Zv (db rfl ez rfl d) <| Zv (BD ) <| ZC (vs := [.agg #[_, _, _], .agg #[_, _]]) Fe (jE KQ _ _ 0 0 _ b.sl c.sl (fun _ => by decide)) rfl fun ai aj k J => ?_
 have V := (Below.size hB)
 replace hB := Ze hB k
 replace b := k.ow b
 replace c := k.ow c
 replace d := k.at d
 replace f := k.ow f
 replace e := k.at e
 rw [if_pos (show dO KQ = true ∧ m6 _ _ from ⟨pM, by decide⟩)] at J
 obtain ⟨x3_2, how3_2, why3_2, sp3_2, Rr3_2, rfl, h, hmo3_2⟩ := J
 replace h := dh.mono h V
 obtain ⟨rfl, rfl, hlen3_2⟩ := RM hmo3_2
 refine Zw (.tuple #[.agg #[x3_2, .int .i64 _, .int .i64 _, .int .i64 _], .int .i64 0]) rfl <| Zv (dG rfl) <| Zv (dJ rfl) <| Zy (dt kS rfl fun ak al t i g => ?_)
 have W := ZO t hB
 have X := Zn t e.lt
 clear t
 replace hB := Ze hB i
 replace b := i.ow b
 replace c := i.ow c
 replace d := i.at d
 replace f := i.ow f
 replace e := i.at e
 replace h := i.ow h
 refine Zy (dg rfl rfl eW rfl g rfl (by exact jO (dh.one h)) fun ao j Y => ?_)
 replace hB := Zg hB j W
 replace b := dh.grownAt b g j Dd
 replace c := dh.grownAt c g j Dd
 replace d := At.grownAt d g j Dd
 replace f := dh.grownAt f g j Dd
 replace e := At.grownNe e X j
 replace h := dh.grownAt h g j Dd
 replace g := Y
 refine Zw (.int .i64 0) rfl <| cT <| Zr <| Zf rfl fD <| ZL x2_2 rfl fY e rfl <| Zv (dz (v := x2_2) rfl f.sl dL) <| Zv (dS rfl rfl) <| ZX rfl (fun x => ?_) fun x => ?_
 refine Zf rfl ir <| Zl rfl du e rfl <| Zv (dS rfl rfl) <| Zb rfl <| ZX rfl (fun y => ?_) fun y => ?_
 refine Zf rfl gN <| Zl rfl fX e rfl <| Zv (dS rfl rfl) <| Zb rfl <| ZX rfl (fun z => ?_) fun z => ?_
 refine Zw (.int .i64 0) rfl <| Zv (dS rfl rfl) <| Zb rfl <| ZX rfl (fun A => ?_) fun A => ?_
 refine Zf rfl fD <| ZL x3_2 rfl fY g rfl <| Zv (dz (v := x3_2) rfl h.sl dL) <| Zv (dS rfl rfl) <| Zb rfl <| ZX rfl (fun B => ?_) fun B => ?_
 refine Zf rfl ir <| Zl rfl du g rfl <| Zv (dS rfl rfl) <| Zb rfl <| ZX rfl (fun C => ?_) fun C => ?_
 refine Zf rfl gN <| Zl rfl fX g rfl <| Zv (dS rfl rfl) <| Zb rfl <| ZX rfl (fun D => ?_) fun D => ?_
 refine Zw (.int .i64 0) rfl <| Zv (dS rfl rfl) <| Zb rfl <| Zb rfl <| cT <| Zt <| dC (v := .bool _) rfl ⟨hB, ?_⟩
 rfl
 first | exact absurd rfl D | exact absurd (by omega) D
 first | exact absurd rfl C | exact absurd (by omega) C
 first | exact absurd rfl B | exact absurd (by omega) B
 first | exact absurd rfl A | exact absurd (by omega) A
 first | exact absurd rfl z | exact absurd (by omega) z
 first | exact absurd rfl y | exact absurd (by omega) y
 first | exact absurd rfl x | exact absurd (by omega) x
set_option maxRecDepth 20000 in
theorem mR (S : Sp) (onV mayV : Value) (b0 b1 : Int) (w : World) (hon : dN gp 4 w onV S.on) (hmay : dN gp 4 w mayV S.may) :
    Fn Tryz.prog 3 #[.agg #[.int .i64 S.n, onV, mayV], .agg #[.int .i64 b0, .int .i64 b1]] w fun v w' => v = .bool true := by
 refine dq (n := 169) Tryz.func3 rfl rfl (Nat.le_of_ble_eq_true rfl) ?_
 have hB : Below w.heap.size w w := Below.refl _ _
 refine Zr <| Zy (dY (c := #[_, _, _]) rfl rfl fun a0 W3 a1 bh b => ?_)
 have bJ := ZO a1 hB
 clear a1
 replace hB := Ze hB bh
 refine Zy (dY (c := #[_, _]) rfl rfl fun a2 W6 a3 a4 d => ?_)
 have bK := ZO a3 hB
 clear a3
 replace hB := Ze hB a4
 replace b := a4.at b
 refine Zw (.bool false) rfl <| cT <| cY fun K9 a5 => Zr <| Zv (db rfl ez rfl b) <| ZC (vs := [.agg #[_, _, _]]) QI (oE S _ _  _ (Below.slT hB hon) (Below.slT hB hmay) ) rfl fun bL bM aI bi => ?_
 replace hB := Ze hB aI
 replace b := aI.at b
 replace d := aI.at d
 obtain rfl := bi
 refine ZX rfl (fun R => ?_) fun R => ?_
 refine Zs <| Zs <| Zs <| Zs <| Zs <| Zs <| Zs <| Zs <| Zw (.bool true) rfl <| cT <| dB rfl <| Zr <| ZC nG (dW _) rfl fun bj bN aJ aK => ?_
 replace hB := Ze hB aJ
 replace b := aJ.at b
 replace d := aJ.at d
 obtain rfl := aK
 refine Zb rfl <| cT <| Zt <| dC (v := .bool _) rfl ⟨hB, ?_⟩
 rfl
 refine Zf rfl iq <| Zl rfl du d rfl <| Zv (iE rfl rfl) <| ZX rfl (fun bk => ?_) fun bk => ?_
 refine Zf rfl iq <| Zl rfl du d rfl <| Zv (ug rfl rfl) <| Zb rfl <| Zb rfl <| cT <| ZQ rfl (fun bl => ?_) fun bl => ?_
 refine Zr <| ZC nG (dW _) rfl fun bj bO aL aK => ?_
 replace hB := Ze hB aL
 replace b := aL.at b
 replace d := aL.at d
 obtain rfl := aK
 refine Zb rfl <| cT <| Zt <| dC (v := .bool _) rfl ⟨hB, ?_⟩
 rfl
 refine c7 <| a5 _ _ <| Zr <| Zv (db rfl ez rfl b) <| Zv (db rfl o4 rfl d) <| ZC (vs := [.agg #[_, _, _], .agg #[_, _]]) Fe (jE S _ _ b0 b1 _ (Below.slT hB hon) (Below.slT hB hmay) (fun hr => ng hr R)) rfl fun bm bP aM A => ?_
 have bn := (Below.size hB)
 replace hB := Ze hB aM
 replace b := aM.at b
 replace d := aM.at d
 have hszm3_2 := bn
 by_cases hbm3_2 : dO S = true ∧ m6 b0 b1
 rw [if_pos hbm3_2] at A
 obtain ⟨x3_2, how3_2, why3_2, sp3_2, Rr3_2, rfl, f, hmo3_2⟩ := A
 replace f := dh.mono f hszm3_2
 refine Zw (.tuple #[.agg #[x3_2, .int .i64 _, .int .i64 _, .int .i64 _], .int .i64 0]) rfl <| Zv (dG rfl) <| Zv (dJ rfl) <| Zy (dt kS rfl fun T bQ a6 aw a => ?_)
 have C := ZO a6 hB
 clear a6
 replace hB := Ze hB aw
 replace b := aw.at b
 replace d := aw.at d
 replace f := aw.ow f
 refine Zy (dg rfl rfl eW rfl a rfl (by first | exact jO (dh.one f) | exact jO rfl) fun bR ax bo => ?_)
 replace hB := Zg hB ax C
 replace b := At.grownAt b a ax Dd
 replace d := At.grownAt d a ax Dd
 replace f := dh.grownAt f a ax Dd
 replace a := bo
 refine Zw (.int .i64 0) rfl <| cT <| cY fun bS bp => Zr <| Zv (db rfl ez rfl b) <| ZC (vs := [.agg #[_, _, _]]) ww (gk S _ _  _ (Below.slT hB hon) (Below.slT hB hmay) ) rfl fun aN bT U D => ?_
 replace hB := Ze hB U
 replace b := U.at b
 replace d := U.at d
 replace f := U.ow f
 replace a := U.at a
 obtain rfl := D
 refine Zv (eX rfl) <| ZX rfl (fun h => ?_) fun h => ?_
 rw [hbm3_2.1] at h; exact absurd h (by decide)
 refine Zv (db rfl o4 rfl d) <| ZC (vs := [.agg #[_, _]]) zi (iv _ _ _) rfl fun aO bU V E => ?_
 replace hB := Ze hB V
 replace b := V.at b
 replace d := V.at d
 replace f := V.ow f
 replace a := V.at a
 obtain rfl := E
 refine Zv (eX rfl) <| Zb rfl <| cT <| ZQ rfl (fun j => ?_) fun j => ?_
 rw [decide_eq_true hbm3_2.2] at j; exact absurd j (by decide)
 refine c7 <| bp _ _ <| cY fun bV bq => ?_
 obtain ⟨hr, hbd⟩ := hbm3_2
 obtain ⟨hn4, X⟩ := ng hr R
 have hcv := yI hr hmo3_2
 have hrb := EW hr hmo3_2
 have hrl := H8 hr hn4 X hmo3_2
 have B : 0 ≤ b1 := hbd.2.1
 have hal := qY hr hn4 X
 obtain ⟨hsp0, hsp1⟩ := Ny hmo3_2 B
 refine Zr <| Zw (.int .i64 0) rfl <| Zv (f4 rfl rfl) <| ZX rfl (fun Y => ?_) fun Y => ?_
 exact absurd rfl Y
 refine Zv (db rfl ez rfl b) <| Zf rfl fD <| ZL x3_2 rfl fY a rfl <| ZC (vs := [.agg #[_, _, _], x3_2]) zM (gM S _ _ _ Rr3_2 _ (Below.slT hB hon) (Below.slT hB hmay) f.sl Om hrb hr) rfl fun br bW Z aP => ?_
 replace hB := Ze hB Z
 replace b := Z.at b
 replace d := Z.at d
 replace f := Z.ow f
 replace a := Z.at a
 obtain rfl := aP
 refine Zv (eX rfl) <| Zb rfl <| ZX rfl (fun F => ?_) fun F => ?_
 rw [hcv] at F; exact absurd F (by decide)
 refine Zf rfl ip <| Zl rfl du a rfl <| Zv (dM rfl rfl) <| Zb rfl <| ZX rfl (fun aa => ?_) fun aa => ?_
 exact absurd aa Om
 refine Zf rfl ip <| Zl rfl du a rfl <| Zf rfl iq <| Zl rfl du d rfl <| Zv (iE rfl rfl) <| Zb rfl <| cT <| ZQ rfl (fun ab => ?_) fun ab => ?_
 exact absurd ab Om
 refine c7 <| bq _ _ <| cY fun bX bs => Zr <| Zf rfl ir <| Zl rfl du a rfl <| Zv (dS rfl rfl) <| cT <| ZQ rfl (fun g => ?_) fun g => ?_
 refine Zr <| Zv (db rfl ez rfl b) <| Zf rfl fD <| ZL x3_2 rfl fY a rfl <| ZC (vs := [.agg #[_, _, _], x3_2]) IL (kn S _ _ _ Rr3_2 _ (Below.slT hB hon) (Below.slT hB hmay) f.sl Om hrb hr) rfl fun bt bY ac aQ => ?_
 replace hB := Ze hB ac
 replace b := ac.at b
 replace d := ac.at d
 replace f := ac.ow f
 replace a := ac.at a
 obtain rfl := aQ
 refine ZX rfl (fun ad => ?_) fun ad => ?_
 refine Zf rfl gN <| Zl rfl fX a rfl <| Zv (dS rfl rfl) <| ZX rfl (fun aR => ?_) fun aR => ?_
 refine Zf rfl ip <| Zl rfl du a rfl <| Zv (dS rfl rfl) <| Zb rfl <| ZX rfl (fun ae => ?_) fun ae => ?_
 refine Zs <| Zs <| Zs <| Zs <| Zs <| Zs <| Zs <| Zs <| Zs <| Zs <| Zw (.bool true) rfl <| Zw (.bool true) rfl <| Zw (.bool true) rfl <| ZC nG (dW _) rfl fun aS bZ af G => ?_
 replace hB := Ze hB af
 replace b := af.at b
 replace d := af.at d
 replace f := af.ow f
 replace a := af.at a
 obtain rfl := G
 refine Zb rfl <| Zb rfl <| cT <| Zt <| dC (v := .bool _) rfl ⟨hB, ?_⟩
 rfl
 exact absurd (by have := C5 hmo3_2 B g; omega) ae
 refine Zs <| Zs <| Zs <| Zw (.bool false) rfl <| Zw (.bool false) rfl <| Zf rfl gN <| Zl rfl fX a rfl <| Zv (dS rfl rfl) <| ZX rfl (fun ag => ?_) fun ag => ?_
 refine Zf rfl ip <| Zl rfl du a rfl <| Zf rfl iq <| Zl rfl du d rfl <| Zv (dS rfl rfl) <| Zb rfl <| Zb rfl <| Zb rfl <| ZX rfl (fun ah => ?_) fun ah => ?_
 refine ZC nG (dW _) rfl fun aS b2 ai G => ?_
 replace hB := Ze hB ai
 replace b := ai.at b
 replace d := ai.at d
 replace f := ai.ow f
 replace a := ai.at a
 obtain rfl := G
 refine Zb rfl <| Zb rfl <| cT <| Zt <| dC (v := .bool _) rfl ⟨hB, ?_⟩
 rfl
 exact absurd (by have := C5 hmo3_2 B g; omega) ah
 exact absurd (by have := C5 hmo3_2 B g; omega) ag
 exact absurd (FN hr hmo3_2 g) (by rw [ad]; decide)
 refine c7 <| bs _ _ <| Zr <| Zv (db rfl ez rfl b) <| ZC (vs := [.agg #[_, _, _]]) Di (qz S _ _  _ (Below.slT hB hon) (Below.slT hB hmay) ) rfl fun bu b3 aj ak => ?_
 have b4 := dh.lt2 f
 have bv := (Below.size hB)
 replace hB := Ze hB aj
 replace b := aj.at b
 replace d := aj.at d
 replace f := aj.ow f
 replace a := aj.at a
 rw [if_pos hr] at ak
 obtain ⟨xl, rfl, hol⟩ := ak
 replace hol := dh.mono hol bv
 refine Zw (.tuple #[xl, .int .i64 0]) rfl <| Zv (dG rfl) <| Zv (dJ rfl) <| Zw xl rfl <| Zw (.int .i64 0) rfl <| cT <| Zr <| Zw (.int .i64 0) rfl <| cT <| cY fun b5 a7 => Zr <| Zw (.int .i64 0) rfl <| cT <| c9 ?_
 refine dy (σ := (Nat)) [9, 10, 122, 123, 124, 125, 126, 127, 128, 129, 130, 131, 132, 133, 134, 135, 136, 137, 138, 139, 140, 141, 142, 143, 144, 145, 146] (fun i => [(10, .int .i64 (i : Int)), (9, .int .i64 ((kd (eK S) Rr3_2 i : Nat) : Int))]) (fun i W => (Below w.heap.size w W) ∧ (At W a0 _ 24) ∧ (At W a2 _ 26) ∧ (dh fJ 3 42 W w.heap.size x3_2 _) ∧ (At W T _ 32) ∧ (dh fJ 3 42 W w.heap.size xl _) ∧ (i ≤ (eK S).length) ∧ (True)) (fun i => (eK S).length - i) (0) ⟨rfl, rfl, trivial⟩ ⟨hB, b, d, f, a, hol, (Nat.zero_le _), trivial⟩ ?_
 clear hB b d f a hol
 rintro i b6 b7 ⟨hB, b, d, f, a, hol, hi, _⟩ b8 a8
 refine cY fun b9 bw => Zr <| Zi rfl <| Zw xl rfl <| Zv (dz (v := xl) rfl hol.sl dL) <| Zv (dM rfl rfl) <| ZX rfl (fun H => ?_) fun H => ?_
 refine Zi rfl <| Zf rfl fD <| ZL x3_2 rfl fY a rfl <| Zv (dz (v := x3_2) rfl f.sl dL) <| Zv (dM rfl rfl) <| Zb rfl <| cT <| ZQ rfl (fun I => ?_) fun I => ?_
 refine c7 <| bw _ _ <| cY fun ca a9 => c9 <| Zd ep fun bx L => ?_
 replace hB := Ze hB L
 replace b := L.at b
 replace d := L.at d
 replace f := L.ow f
 replace a := L.at a
 replace hol := L.ow hol
 have hS := ep.refl bx
 refine Tw 0 xl rfl rfl hS <| Ti 1 rfl rfl hS <| Tk 2 rfl (fun _ hq => dF (v := xl) rfl ((hq.ow hol)).sl rfl dL Om Om) hS <| Tk 3 rfl (fun _ hq => i4 rfl ex (dN.cell ((hq.ow hol)).sl dU ⟨⟨0, 0⟩, 0⟩ Om Om 0 rfl) (dN.cell ((hq.ow hol)).sl dU ⟨⟨0, 0⟩, 0⟩ Om Om 1 rfl) (dN.cell ((hq.ow hol)).sl dU ⟨⟨0, 0⟩, 0⟩ Om Om 2 rfl)) hS <| Tf 4 rfl rfl fD hS <| Tk 5 rfl (fun _ hq => dk (v := x3_2) rfl fY (At.cell (hq.at a) rfl)) hS <| Ti 6 rfl rfl hS <| Tk 7 rfl (fun _ hq => dF (v := x3_2) rfl ((hq.ow f)).sl rfl dL Om Om) hS <| Tk 8 rfl (fun _ hq => i4 rfl ex (dN.cell ((hq.ow f)).sl dU ⟨⟨0, 0⟩, 0⟩ Om Om 0 rfl) (dN.cell ((hq.ow f)).sl dU ⟨⟨0, 0⟩, 0⟩ Om Om 1 rfl) (dN.cell ((hq.ow f)).sl dU ⟨⟨0, 0⟩, 0⟩ Om Om 2 rfl)) hS <| Tk 9 rfl (fun _ _ => Aa rfl rfl) hS <| Td <| ZQ rfl (fun l => ?_) fun l => ?_
 refine cZ <| Zi rfl <| Zv (dm rfl rfl Om Om) <| Zi rfl <| cT <| a9 _ _ <| cZ <| Zi rfl <| Zv (dm rfl rfl Om Om) <| Zi rfl <| cT ?_
 exact a8 _ _ (i + 1) Za ⟨rfl, (by first | exact congrArg (Value.int .i64) (Mb Om (F0 (x := (eK S).getD i ⟨⟨0, 0⟩, 0⟩) (y := Rr3_2.getD (kd (eK S) Rr3_2 i) ⟨⟨0, 0⟩, 0⟩) (fun k => k l))) | exact congrArg (Value.int .i64) (L5 (fun e => l (by simp only [Int.toNat_natCast]; rw [e]; exact ⟨rfl, rfl, rfl⟩)))), trivial⟩ ⟨hB, b, d, f, a, hol, Om, trivial⟩ Zo
 refine c7 <| a9 _ _ <| cZ <| Zi rfl <| Zv (dm rfl rfl Om Om) <| Zi rfl <| cT ?_
 exact a8 _ _ (i + 1) Za ⟨rfl, (by first | exact congrArg (Value.int .i64) (Mb Om (F0 (x := (eK S).getD i ⟨⟨0, 0⟩, 0⟩) (y := Rr3_2.getD (kd (eK S) Rr3_2 i) ⟨⟨0, 0⟩, 0⟩) (fun k => k l))) | exact congrArg (Value.int .i64) (L5 (fun e => l (by simp only [Int.toNat_natCast]; rw [e]; exact ⟨rfl, rfl, rfl⟩)))), trivial⟩ ⟨hB, b, d, f, a, hol, Om, trivial⟩ Zo
 refine dr <| a7 _ _ <| Zr <| Zf rfl ir <| Zl rfl du a rfl <| Zv (dS rfl rfl) <| ZX rfl (fun m => ?_) fun m => ?_
 refine Zf rfl gN <| Zl rfl fX a rfl <| Zv (dS rfl rfl) <| Zb rfl <| ZX rfl (fun o => ?_) fun o => ?_
 refine Zw (.int .i64 0) rfl <| Zv (dS rfl rfl) <| Zb rfl <| ZX rfl (fun p => ?_) fun p => ?_
 refine Zi rfl <| Zf rfl fD <| ZL x3_2 rfl fY a rfl <| Zv (dz (v := x3_2) rfl f.sl dL) <| Zv (dS rfl rfl) <| Zb rfl <| ZX rfl (fun q => ?_) fun q => ?_
 refine ZC nG (dW _) rfl fun aT cb M J => ?_
 replace hB := Ze hB M
 replace b := M.at b
 replace d := M.at d
 replace f := M.ow f
 replace a := M.at a
 replace hol := M.ow hol
 obtain rfl := J
 refine Zb rfl <| Zb rfl <| cT <| Zt <| dC (v := .bool _) rfl ⟨hB, ?_⟩
 rfl
 exact absurd (z6 (zh hmo3_2 (pd hmo3_2 g).1).sub hi (by first | exact .inl H | exact .inr I)) q
 exact absurd rfl p
 exact absurd (pd hmo3_2 g).2 o
 exact absurd (pd hmo3_2 g).1 m
 refine Zs <| Zs <| Zs <| Zs <| Zs <| Zw (.bool false) rfl <| cT <| dX rfl <| dr <| a7 _ _ <| Zr <| Zf rfl ir <| Zl rfl du a rfl <| Zv (dS rfl rfl) ?_
 refine ZX rfl (fun m => ?_) fun m => ?_
 refine Zf rfl gN <| Zl rfl fX a rfl <| Zv (dS rfl rfl) <| Zb rfl <| ZX rfl (fun o => ?_) fun o => ?_
 refine Zw (.int .i64 0) rfl <| Zv (dS rfl rfl) <| Zb rfl <| ZX rfl (fun p => ?_) fun p => ?_
 refine Zi rfl <| Zf rfl fD <| ZL x3_2 rfl fY a rfl <| Zv (dz (v := x3_2) rfl f.sl dL) <| Zv (dS rfl rfl) <| Zb rfl <| ZX rfl (fun q => ?_) fun q => ?_
 refine ZC nG (dW _) rfl fun aT cc N J => ?_
 replace hB := Ze hB N
 replace b := N.at b
 replace d := N.at d
 replace f := N.ow f
 replace a := N.at a
 replace hol := N.ow hol
 obtain rfl := J
 refine Zb rfl <| Zb rfl <| cT <| Zt <| dC (v := .bool _) rfl ⟨hB, ?_⟩
 rfl
 exact absurd (z6 (zh hmo3_2 (pd hmo3_2 g).1).sub hi (by first | exact .inl H | exact .inr I)) q
 exact absurd rfl p
 exact absurd (pd hmo3_2 g).2 o
 exact absurd (pd hmo3_2 g).1 m
 rw [if_neg hbm3_2] at A
 obtain rfl := A
 refine Zw (.tuple #[.agg #[.slice none 0 0, .int .i64 0, .int .i64 0, .int .i64 0], .int .i64 1]) rfl <| Zv (dG rfl) <| Zv (dJ rfl) <| Zy (dt kS rfl fun T cd ba aU a => ?_)
 have C := ZO ba hB
 clear ba
 replace hB := Ze hB aU
 replace b := aU.at b
 replace d := aU.at d
 refine Zy (dg rfl rfl eW rfl a rfl (by first | exact jO (dh.one f) | exact jO rfl) fun ce aV bz => ?_)
 replace hB := Zg hB aV C
 replace b := At.grownAt b a aV Dd
 replace d := At.grownAt d a aV Dd
 replace a := bz
 refine Zw (.int .i64 1) rfl <| cT <| cY fun cf cg => Zr <| Zv (db rfl ez rfl b) <| ZC (vs := [.agg #[_, _, _]]) ww (gk S _ _  _ (Below.slT hB hon) (Below.slT hB hmay) ) rfl fun aN ch ay D => ?_
 replace hB := Ze hB ay
 replace b := ay.at b
 replace d := ay.at d
 replace a := ay.at a
 obtain rfl := D
 refine Zv (eX rfl) <| ZX rfl (fun h => ?_) fun h => ?_
 refine Zs <| Zs <| Zs <| Zw (.bool true) rfl <| cT <| dB rfl <| Zr <| Zf rfl fD <| ZL (.slice none 0 0) rfl fY a rfl <| Zv (dz (v := .slice none 0 0) rfl (dN.nil (enc := fJ) (sz := 3) (w := w)) dL) <| Zv (dS rfl rfl) <| ZX rfl (fun r => ?_) fun r => ?_
 refine Zf rfl ir <| Zl rfl du a rfl <| Zv (dS rfl rfl) <| Zb rfl <| ZX rfl (fun s => ?_) fun s => ?_
 refine Zf rfl gN <| Zl rfl fX a rfl <| Zv (dS rfl rfl) <| Zb rfl <| ZX rfl (fun t => ?_) fun t => ?_
 refine Zf rfl ip <| Zl rfl du a rfl <| Zv (dS rfl rfl) <| Zb rfl <| ZX rfl (fun u => ?_) fun u => ?_
 refine Zw (.int .i64 1) rfl <| Zv (dS rfl rfl) <| Zb rfl <| ZX rfl (fun z => ?_) fun z => ?_
 refine ZC nG (dW _) rfl fun aW ci az K => ?_
 replace hB := Ze hB az
 replace b := az.at b
 replace d := az.at d
 replace a := az.at a
 obtain rfl := K
 refine Zb rfl <| Zb rfl <| cT <| Zt <| dC (v := .bool _) rfl ⟨hB, ?_⟩
 rfl
 exact absurd rfl z
 exact absurd rfl u
 exact absurd rfl t
 exact absurd rfl s
 exact absurd rfl r
 refine Zv (db rfl o4 rfl d) <| ZC (vs := [.agg #[_, _]]) zi (iv _ _ _) rfl fun aO cj aA E => ?_
 replace hB := Ze hB aA
 replace b := aA.at b
 replace d := aA.at d
 replace a := aA.at a
 obtain rfl := E
 refine Zv (eX rfl) <| Zb rfl <| cT <| ZQ rfl (fun j => ?_) fun j => ?_
 refine Zr <| Zf rfl fD <| ZL (.slice none 0 0) rfl fY a rfl <| Zv (dz (v := .slice none 0 0) rfl (dN.nil (enc := fJ) (sz := 3) (w := w)) dL) <| Zv (dS rfl rfl) <| ZX rfl (fun r => ?_) fun r => ?_
 refine Zf rfl ir <| Zl rfl du a rfl <| Zv (dS rfl rfl) <| Zb rfl <| ZX rfl (fun s => ?_) fun s => ?_
 refine Zf rfl gN <| Zl rfl fX a rfl <| Zv (dS rfl rfl) <| Zb rfl <| ZX rfl (fun t => ?_) fun t => ?_
 refine Zf rfl ip <| Zl rfl du a rfl <| Zv (dS rfl rfl) <| Zb rfl <| ZX rfl (fun u => ?_) fun u => ?_
 refine Zw (.int .i64 1) rfl <| Zv (dS rfl rfl) <| Zb rfl <| ZX rfl (fun z => ?_) fun z => ?_
 refine ZC nG (dW _) rfl fun aW ck aB K => ?_
 replace hB := Ze hB aB
 replace b := aB.at b
 replace d := aB.at d
 replace a := aB.at a
 obtain rfl := K
 refine Zb rfl <| Zb rfl <| cT <| Zt <| dC (v := .bool _) rfl ⟨hB, ?_⟩
 rfl
 exact absurd rfl z
 exact absurd rfl u
 exact absurd rfl t
 exact absurd rfl s
 exact absurd rfl r
 exact absurd ⟨ic h, of_decide_eq_true (ic j)⟩ hbm3_2
 refine Zs <| Zs <| Zs <| Zw (.bool false) rfl <| Zw (.bool false) rfl <| cT <| dX rfl <| c7 <| a5 _ _ <| Zr <| Zv (db rfl ez rfl b) <| Zv (db rfl o4 rfl d) <| ZC (vs := [.agg #[_, _, _], .agg #[_, _]]) Fe (jE S _ _ b0 b1 _ (Below.slT hB hon) (Below.slT hB hmay) (fun hr => ng hr R)) rfl fun bm cl aX A => ?_
 have bA := (Below.size hB)
 replace hB := Ze hB aX
 replace b := aX.at b
 replace d := aX.at d
 have hszm3_2 := bA
 by_cases hbm3_2 : dO S = true ∧ m6 b0 b1
 rw [if_pos hbm3_2] at A
 obtain ⟨x3_2, how3_2, why3_2, sp3_2, Rr3_2, rfl, f, hmo3_2⟩ := A
 replace f := dh.mono f hszm3_2
 refine Zw (.tuple #[.agg #[x3_2, .int .i64 _, .int .i64 _, .int .i64 _], .int .i64 0]) rfl <| Zv (dG rfl) <| Zv (dJ rfl) <| Zy (dt kS rfl fun T cm bb aC a => ?_)
 have C := ZO bb hB
 clear bb
 replace hB := Ze hB aC
 replace b := aC.at b
 replace d := aC.at d
 replace f := aC.ow f
 refine Zy (dg rfl rfl eW rfl a rfl (by first | exact jO (dh.one f) | exact jO rfl) fun cn aD bB => ?_)
 replace hB := Zg hB aD C
 replace b := At.grownAt b a aD Dd
 replace d := At.grownAt d a aD Dd
 replace f := dh.grownAt f a aD Dd
 replace a := bB
 refine Zw (.int .i64 0) rfl <| cT <| cY fun co bC => Zr <| Zv (db rfl ez rfl b) <| ZC (vs := [.agg #[_, _, _]]) ww (gk S _ _  _ (Below.slT hB hon) (Below.slT hB hmay) ) rfl fun aN cp al D => ?_
 replace hB := Ze hB al
 replace b := al.at b
 replace d := al.at d
 replace f := al.ow f
 replace a := al.at a
 obtain rfl := D
 refine Zv (eX rfl) <| ZX rfl (fun h => ?_) fun h => ?_
 rw [hbm3_2.1] at h; exact absurd h (by decide)
 refine Zv (db rfl o4 rfl d) <| ZC (vs := [.agg #[_, _]]) zi (iv _ _ _) rfl fun aO cq ao E => ?_
 replace hB := Ze hB ao
 replace b := ao.at b
 replace d := ao.at d
 replace f := ao.ow f
 replace a := ao.at a
 obtain rfl := E
 refine Zv (eX rfl) <| Zb rfl <| cT <| ZQ rfl (fun j => ?_) fun j => ?_
 rw [decide_eq_true hbm3_2.2] at j; exact absurd j (by decide)
 refine c7 <| bC _ _ <| cY fun cr bD => ?_
 obtain ⟨hr, hbd⟩ := hbm3_2
 obtain ⟨hn4, X⟩ := ng hr R
 have hcv := yI hr hmo3_2
 have hrb := EW hr hmo3_2
 have hrl := H8 hr hn4 X hmo3_2
 have B : 0 ≤ b1 := hbd.2.1
 have hal := qY hr hn4 X
 obtain ⟨hsp0, hsp1⟩ := Ny hmo3_2 B
 refine Zr <| Zw (.int .i64 0) rfl <| Zv (f4 rfl rfl) <| ZX rfl (fun Y => ?_) fun Y => ?_
 exact absurd rfl Y
 refine Zv (db rfl ez rfl b) <| Zf rfl fD <| ZL x3_2 rfl fY a rfl <| ZC (vs := [.agg #[_, _, _], x3_2]) zM (gM S _ _ _ Rr3_2 _ (Below.slT hB hon) (Below.slT hB hmay) f.sl Om hrb hr) rfl fun br cs ap aP => ?_
 replace hB := Ze hB ap
 replace b := ap.at b
 replace d := ap.at d
 replace f := ap.ow f
 replace a := ap.at a
 obtain rfl := aP
 refine Zv (eX rfl) <| Zb rfl <| ZX rfl (fun F => ?_) fun F => ?_
 rw [hcv] at F; exact absurd F (by decide)
 refine Zf rfl ip <| Zl rfl du a rfl <| Zv (dM rfl rfl) <| Zb rfl <| ZX rfl (fun aa => ?_) fun aa => ?_
 exact absurd aa Om
 refine Zf rfl ip <| Zl rfl du a rfl <| Zf rfl iq <| Zl rfl du d rfl <| Zv (iE rfl rfl) <| Zb rfl <| cT <| ZQ rfl (fun ab => ?_) fun ab => ?_
 exact absurd ab Om
 refine c7 <| bD _ _ <| cY fun ct bE => Zr <| Zf rfl ir <| Zl rfl du a rfl <| Zv (dS rfl rfl) <| cT <| ZQ rfl (fun g => ?_) fun g => ?_
 refine Zr <| Zv (db rfl ez rfl b) <| Zf rfl fD <| ZL x3_2 rfl fY a rfl <| ZC (vs := [.agg #[_, _, _], x3_2]) IL (kn S _ _ _ Rr3_2 _ (Below.slT hB hon) (Below.slT hB hmay) f.sl Om hrb hr) rfl fun bt cu aq aQ => ?_
 replace hB := Ze hB aq
 replace b := aq.at b
 replace d := aq.at d
 replace f := aq.ow f
 replace a := aq.at a
 obtain rfl := aQ
 refine ZX rfl (fun ad => ?_) fun ad => ?_
 refine Zf rfl gN <| Zl rfl fX a rfl <| Zv (dS rfl rfl) <| ZX rfl (fun aR => ?_) fun aR => ?_
 refine Zf rfl ip <| Zl rfl du a rfl <| Zv (dS rfl rfl) <| Zb rfl <| ZX rfl (fun ae => ?_) fun ae => ?_
 refine Zs <| Zs <| Zs <| Zs <| Zs <| Zs <| Zs <| Zs <| Zs <| Zs <| Zw (.bool true) rfl <| Zw (.bool true) rfl <| Zw (.bool true) rfl <| ZC nG (dW _) rfl fun aS cv ar G => ?_
 replace hB := Ze hB ar
 replace b := ar.at b
 replace d := ar.at d
 replace f := ar.ow f
 replace a := ar.at a
 obtain rfl := G
 refine Zb rfl <| Zb rfl <| cT <| Zt <| dC (v := .bool _) rfl ⟨hB, ?_⟩
 rfl
 exact absurd (by have := C5 hmo3_2 B g; omega) ae
 refine Zs <| Zs <| Zs <| Zw (.bool false) rfl <| Zw (.bool false) rfl <| Zf rfl gN <| Zl rfl fX a rfl <| Zv (dS rfl rfl) <| ZX rfl (fun ag => ?_) fun ag => ?_
 refine Zf rfl ip <| Zl rfl du a rfl <| Zf rfl iq <| Zl rfl du d rfl <| Zv (dS rfl rfl) <| Zb rfl <| Zb rfl <| Zb rfl <| ZX rfl (fun ah => ?_) fun ah => ?_
 refine ZC nG (dW _) rfl fun aS cw au G => ?_
 replace hB := Ze hB au
 replace b := au.at b
 replace d := au.at d
 replace f := au.ow f
 replace a := au.at a
 obtain rfl := G
 refine Zb rfl <| Zb rfl <| cT <| Zt <| dC (v := .bool _) rfl ⟨hB, ?_⟩
 rfl
 exact absurd (by have := C5 hmo3_2 B g; omega) ah
 exact absurd (by have := C5 hmo3_2 B g; omega) ag
 exact absurd (FN hr hmo3_2 g) (by rw [ad]; decide)
 refine c7 <| bE _ _ <| Zr <| Zv (db rfl ez rfl b) <| ZC (vs := [.agg #[_, _, _]]) Di (qz S _ _  _ (Below.slT hB hon) (Below.slT hB hmay) ) rfl fun bu cx av ak => ?_
 have cy := dh.lt2 f
 have bF := (Below.size hB)
 replace hB := Ze hB av
 replace b := av.at b
 replace d := av.at d
 replace f := av.ow f
 replace a := av.at a
 rw [if_pos hr] at ak
 obtain ⟨xl, rfl, hol⟩ := ak
 replace hol := dh.mono hol bF
 refine Zw (.tuple #[xl, .int .i64 0]) rfl <| Zv (dG rfl) <| Zv (dJ rfl) <| Zw xl rfl <| Zw (.int .i64 0) rfl <| cT <| Zr <| Zw (.int .i64 0) rfl <| cT <| cY fun cz bc => Zr <| Zw (.int .i64 0) rfl <| cT <| c9 ?_
 refine dy (σ := (Nat)) [9, 10, 122, 123, 124, 125, 126, 127, 128, 129, 130, 131, 132, 133, 134, 135, 136, 137, 138, 139, 140, 141, 142, 143, 144, 145, 146] (fun i => [(10, .int .i64 (i : Int)), (9, .int .i64 ((kd (eK S) Rr3_2 i : Nat) : Int))]) (fun i W => (Below w.heap.size w W) ∧ (At W a0 _ 24) ∧ (At W a2 _ 26) ∧ (dh fJ 3 42 W w.heap.size x3_2 _) ∧ (At W T _ 32) ∧ (dh fJ 3 42 W w.heap.size xl _) ∧ (i ≤ (eK S).length) ∧ (True)) (fun i => (eK S).length - i) (0) ⟨rfl, rfl, trivial⟩ ⟨hB, b, d, f, a, hol, (Nat.zero_le _), trivial⟩ ?_
 clear hB b d f a hol
 rintro i cA cB ⟨hB, b, d, f, a, hol, hi, _⟩ cC bd
 refine cY fun cD bG => Zr <| Zi rfl <| Zw xl rfl <| Zv (dz (v := xl) rfl hol.sl dL) <| Zv (dM rfl rfl) <| ZX rfl (fun H => ?_) fun H => ?_
 refine Zi rfl <| Zf rfl fD <| ZL x3_2 rfl fY a rfl <| Zv (dz (v := x3_2) rfl f.sl dL) <| Zv (dM rfl rfl) <| Zb rfl <| cT <| ZQ rfl (fun I => ?_) fun I => ?_
 refine c7 <| bG _ _ <| cY fun cE bf => c9 <| Zd ep fun bH O => ?_
 replace hB := Ze hB O
 replace b := O.at b
 replace d := O.at d
 replace f := O.ow f
 replace a := O.at a
 replace hol := O.ow hol
 have hS := ep.refl bH
 refine Tw 0 xl rfl rfl hS <| Ti 1 rfl rfl hS <| Tk 2 rfl (fun _ hq => dF (v := xl) rfl ((hq.ow hol)).sl rfl dL Om Om) hS <| Tk 3 rfl (fun _ hq => i4 rfl ex (dN.cell ((hq.ow hol)).sl dU ⟨⟨0, 0⟩, 0⟩ Om Om 0 rfl) (dN.cell ((hq.ow hol)).sl dU ⟨⟨0, 0⟩, 0⟩ Om Om 1 rfl) (dN.cell ((hq.ow hol)).sl dU ⟨⟨0, 0⟩, 0⟩ Om Om 2 rfl)) hS <| Tf 4 rfl rfl fD hS <| Tk 5 rfl (fun _ hq => dk (v := x3_2) rfl fY (At.cell (hq.at a) rfl)) hS <| Ti 6 rfl rfl hS <| Tk 7 rfl (fun _ hq => dF (v := x3_2) rfl ((hq.ow f)).sl rfl dL Om Om) hS <| Tk 8 rfl (fun _ hq => i4 rfl ex (dN.cell ((hq.ow f)).sl dU ⟨⟨0, 0⟩, 0⟩ Om Om 0 rfl) (dN.cell ((hq.ow f)).sl dU ⟨⟨0, 0⟩, 0⟩ Om Om 1 rfl) (dN.cell ((hq.ow f)).sl dU ⟨⟨0, 0⟩, 0⟩ Om Om 2 rfl)) hS <| Tk 9 rfl (fun _ _ => Aa rfl rfl) hS <| Td <| ZQ rfl (fun l => ?_) fun l => ?_
 refine cZ <| Zi rfl <| Zv (dm rfl rfl Om Om) <| Zi rfl <| cT <| bf _ _ <| cZ <| Zi rfl <| Zv (dm rfl rfl Om Om) <| Zi rfl <| cT ?_
 exact bd _ _ (i + 1) Za ⟨rfl, (by first | exact congrArg (Value.int .i64) (Mb Om (F0 (x := (eK S).getD i ⟨⟨0, 0⟩, 0⟩) (y := Rr3_2.getD (kd (eK S) Rr3_2 i) ⟨⟨0, 0⟩, 0⟩) (fun k => k l))) | exact congrArg (Value.int .i64) (L5 (fun e => l (by simp only [Int.toNat_natCast]; rw [e]; exact ⟨rfl, rfl, rfl⟩)))), trivial⟩ ⟨hB, b, d, f, a, hol, Om, trivial⟩ Zo
 refine c7 <| bf _ _ <| cZ <| Zi rfl <| Zv (dm rfl rfl Om Om) <| Zi rfl <| cT ?_
 exact bd _ _ (i + 1) Za ⟨rfl, (by first | exact congrArg (Value.int .i64) (Mb Om (F0 (x := (eK S).getD i ⟨⟨0, 0⟩, 0⟩) (y := Rr3_2.getD (kd (eK S) Rr3_2 i) ⟨⟨0, 0⟩, 0⟩) (fun k => k l))) | exact congrArg (Value.int .i64) (L5 (fun e => l (by simp only [Int.toNat_natCast]; rw [e]; exact ⟨rfl, rfl, rfl⟩)))), trivial⟩ ⟨hB, b, d, f, a, hol, Om, trivial⟩ Zo
 refine dr <| bc _ _ <| Zr <| Zf rfl ir <| Zl rfl du a rfl <| Zv (dS rfl rfl) <| ZX rfl (fun m => ?_) fun m => ?_
 refine Zf rfl gN <| Zl rfl fX a rfl <| Zv (dS rfl rfl) <| Zb rfl <| ZX rfl (fun o => ?_) fun o => ?_
 refine Zw (.int .i64 0) rfl <| Zv (dS rfl rfl) <| Zb rfl <| ZX rfl (fun p => ?_) fun p => ?_
 refine Zi rfl <| Zf rfl fD <| ZL x3_2 rfl fY a rfl <| Zv (dz (v := x3_2) rfl f.sl dL) <| Zv (dS rfl rfl) <| Zb rfl <| ZX rfl (fun q => ?_) fun q => ?_
 refine ZC nG (dW _) rfl fun aT cF P J => ?_
 replace hB := Ze hB P
 replace b := P.at b
 replace d := P.at d
 replace f := P.ow f
 replace a := P.at a
 replace hol := P.ow hol
 obtain rfl := J
 refine Zb rfl <| Zb rfl <| cT <| Zt <| dC (v := .bool _) rfl ⟨hB, ?_⟩
 rfl
 exact absurd (z6 (zh hmo3_2 (pd hmo3_2 g).1).sub hi (by first | exact .inl H | exact .inr I)) q
 exact absurd rfl p
 exact absurd (pd hmo3_2 g).2 o
 exact absurd (pd hmo3_2 g).1 m
 refine Zs <| Zs <| Zs <| Zs <| Zs <| Zw (.bool false) rfl <| cT <| dX rfl <| dr <| bc _ _ <| Zr <| Zf rfl ir <| Zl rfl du a rfl <| Zv (dS rfl rfl) ?_
 refine ZX rfl (fun m => ?_) fun m => ?_
 refine Zf rfl gN <| Zl rfl fX a rfl <| Zv (dS rfl rfl) <| Zb rfl <| ZX rfl (fun o => ?_) fun o => ?_
 refine Zw (.int .i64 0) rfl <| Zv (dS rfl rfl) <| Zb rfl <| ZX rfl (fun p => ?_) fun p => ?_
 refine Zi rfl <| Zf rfl fD <| ZL x3_2 rfl fY a rfl <| Zv (dz (v := x3_2) rfl f.sl dL) <| Zv (dS rfl rfl) <| Zb rfl <| ZX rfl (fun q => ?_) fun q => ?_
 refine ZC nG (dW _) rfl fun aT cG Q J => ?_
 replace hB := Ze hB Q
 replace b := Q.at b
 replace d := Q.at d
 replace f := Q.ow f
 replace a := Q.at a
 replace hol := Q.ow hol
 obtain rfl := J
 refine Zb rfl <| Zb rfl <| cT <| Zt <| dC (v := .bool _) rfl ⟨hB, ?_⟩
 rfl
 exact absurd (z6 (zh hmo3_2 (pd hmo3_2 g).1).sub hi (by first | exact .inl H | exact .inr I)) q
 exact absurd rfl p
 exact absurd (pd hmo3_2 g).2 o
 exact absurd (pd hmo3_2 g).1 m
 rw [if_neg hbm3_2] at A
 obtain rfl := A
 refine Zw (.tuple #[.agg #[.slice none 0 0, .int .i64 0, .int .i64 0, .int .i64 0], .int .i64 1]) rfl <| Zv (dG rfl) <| Zv (dJ rfl) <| Zy (dt kS rfl fun T cH bg aY a => ?_)
 have C := ZO bg hB
 clear bg
 replace hB := Ze hB aY
 replace b := aY.at b
 replace d := aY.at d
 refine Zy (dg rfl rfl eW rfl a rfl (by first | exact jO (dh.one f) | exact jO rfl) fun cI aZ bI => ?_)
 replace hB := Zg hB aZ C
 replace b := At.grownAt b a aZ Dd
 replace d := At.grownAt d a aZ Dd
 replace a := bI
 refine Zw (.int .i64 1) rfl <| cT <| cY fun cJ cK => Zr <| Zv (db rfl ez rfl b) <| ZC (vs := [.agg #[_, _, _]]) ww (gk S _ _  _ (Below.slT hB hon) (Below.slT hB hmay) ) rfl fun aN cL aE D => ?_
 replace hB := Ze hB aE
 replace b := aE.at b
 replace d := aE.at d
 replace a := aE.at a
 obtain rfl := D
 refine Zv (eX rfl) <| ZX rfl (fun h => ?_) fun h => ?_
 refine Zs <| Zs <| Zs <| Zw (.bool true) rfl <| cT <| dB rfl <| Zr <| Zf rfl fD <| ZL (.slice none 0 0) rfl fY a rfl <| Zv (dz (v := .slice none 0 0) rfl (dN.nil (enc := fJ) (sz := 3) (w := w)) dL) <| Zv (dS rfl rfl) <| ZX rfl (fun r => ?_) fun r => ?_
 refine Zf rfl ir <| Zl rfl du a rfl <| Zv (dS rfl rfl) <| Zb rfl <| ZX rfl (fun s => ?_) fun s => ?_
 refine Zf rfl gN <| Zl rfl fX a rfl <| Zv (dS rfl rfl) <| Zb rfl <| ZX rfl (fun t => ?_) fun t => ?_
 refine Zf rfl ip <| Zl rfl du a rfl <| Zv (dS rfl rfl) <| Zb rfl <| ZX rfl (fun u => ?_) fun u => ?_
 refine Zw (.int .i64 1) rfl <| Zv (dS rfl rfl) <| Zb rfl <| ZX rfl (fun z => ?_) fun z => ?_
 refine ZC nG (dW _) rfl fun aW cM aF K => ?_
 replace hB := Ze hB aF
 replace b := aF.at b
 replace d := aF.at d
 replace a := aF.at a
 obtain rfl := K
 refine Zb rfl <| Zb rfl <| cT <| Zt <| dC (v := .bool _) rfl ⟨hB, ?_⟩
 rfl
 exact absurd rfl z
 exact absurd rfl u
 exact absurd rfl t
 exact absurd rfl s
 exact absurd rfl r
 refine Zv (db rfl o4 rfl d) <| ZC (vs := [.agg #[_, _]]) zi (iv _ _ _) rfl fun aO cN aG E => ?_
 replace hB := Ze hB aG
 replace b := aG.at b
 replace d := aG.at d
 replace a := aG.at a
 obtain rfl := E
 refine Zv (eX rfl) <| Zb rfl <| cT <| ZQ rfl (fun j => ?_) fun j => ?_
 refine Zr <| Zf rfl fD <| ZL (.slice none 0 0) rfl fY a rfl <| Zv (dz (v := .slice none 0 0) rfl (dN.nil (enc := fJ) (sz := 3) (w := w)) dL) <| Zv (dS rfl rfl) <| ZX rfl (fun r => ?_) fun r => ?_
 refine Zf rfl ir <| Zl rfl du a rfl <| Zv (dS rfl rfl) <| Zb rfl <| ZX rfl (fun s => ?_) fun s => ?_
 refine Zf rfl gN <| Zl rfl fX a rfl <| Zv (dS rfl rfl) <| Zb rfl <| ZX rfl (fun t => ?_) fun t => ?_
 refine Zf rfl ip <| Zl rfl du a rfl <| Zv (dS rfl rfl) <| Zb rfl <| ZX rfl (fun u => ?_) fun u => ?_
 refine Zw (.int .i64 1) rfl <| Zv (dS rfl rfl) <| Zb rfl <| ZX rfl (fun z => ?_) fun z => ?_
 refine ZC nG (dW _) rfl fun aW cO aH K => ?_
 replace hB := Ze hB aH
 replace b := aH.at b
 replace d := aH.at d
 replace a := aH.at a
 obtain rfl := K
 refine Zb rfl <| Zb rfl <| cT <| Zt <| dC (v := .bool _) rfl ⟨hB, ?_⟩
 rfl
 exact absurd rfl z
 exact absurd rfl u
 exact absurd rfl t
 exact absurd rfl s
 exact absurd rfl r
 exact absurd ⟨ic h, of_decide_eq_true (ic j)⟩ hbm3_2
end
end Go.Proofs.YteimkklmmanncaaGreat
