/- What the fewest rows come to, with the room and the steps they ask for. No program in it. The walks of package minim. Room and steps that are enough, for few inputs and outputs. No program in it. The document's fewest rows, tried in all choices; and that enough is enough. No program in it. The walks -/
import Derived.Test.YteimkklmmanncaaGreatMin
namespace Go.Proofs.YteimkklmmanncaaGreat
set_option linter.unusedVariables false
set_option linter.unusedSimpArgs false
section
open Go Go.RowKit
def Lb (R : Nat) (S : Sp) (e : Int) : Prop := ∃ ns' id, Qv R [] S ns' id e ∧ ns'.length ≤ R ∧ Wf ns'
def N3 (S : Sp) (T : Nat) : Prop := ∃ L ks, lT (lP S (eV S)) L ks ∧ T + 1 < 2 ^ cnt L
theorem wq {U r : List Int} (h : U.Nodup) : ∀ k, (pr U r k).Nodup
 | 0 => h
 | k + 1 => jB (wq h k) _
theorem PU {l : List Int} {c : Int} : c ∈ pr [] l l.length ↔ c ∈ l := by
 rw [qa _ (Nat.le_refl _), List.take_length]; simp
theorem Gw {n b : Int} {L : ML} {N : Nat} {TI : TypeId} {v : Value} {w' : World} (h : (∃ tv X s, v = .tuple #[tv, .int .i64 s, .int .i64 0] ∧ dh ee 1 TI w' N tv X ∧ M0 L n X ∧ X.length ≤ 4000 ∧ 0 ≤ s ∧ s ≤ b) ∨ (v = .tuple #[.slice none 0 0, .int .i64 b, .int .i64 6] ∧ b.toNat + 1 < 2 ^ cnt L)) (hb : 0 ≤ b) :
  ∃ tv X s e, v = .tuple #[tv, .int .i64 s, .int .i64 e] ∧ dh ee 1 TI w' N tv X ∧ X.length ≤ 4000 ∧ 0 ≤ s ∧ s ≤ b ∧ (e = 0 → M0 L n X) ∧ (¬ e = 0 → e = 6 ∧ b.toNat + 1 < 2 ^ cnt L) := by
 obtain ⟨tv, X, s, h1, h2, h3, h4, h5, h6⟩ | ⟨h1, h2⟩ := h
 ·exact ⟨tv, X, s, 0, h1, h2, h4, h5, h6, fun _ => h3, fun q => absurd rfl q⟩
 ·exact ⟨_, [], b, 6, h1, dh.nil, Nat.zero_le _, hb, Int.le_refl _, (fun q => (by cases q)), (fun _ => ⟨rfl, h2⟩)⟩
section
variable {S : Sp}
theorem O9 (hr : dL S = true) (hl : (eV S).length ≤ 4000) : zk S (eV S) = 0 := Nm hr (fun k hk => fk (uS hr k hk)) (by omega)
theorem GF {L : ML} {T : List Int} (hr : dL S = true) (hl : (eV S).length ≤ 4000) (h : lT (lP S (eV S)) L T) : jk L L.length = true := by
 have h1 := LH hr hl
 obtain ⟨X, _, h2, _⟩ := h.dn _ (k9 _ _) (qb (j2 (S := S) hl) h1)
 exact Ld h2
theorem HG (hr : dL S = true) : (lP S (eV S)).length ≤ 1024 := by rw [GG]; exact Jn hr
theorem R4 {R : Nat} {ns' : List Nd} {id : Nat} {e : Int} (h : Qv R [] S ns' id e) (h0 : ¬ e = 0) : e = 5 := (P0 h).resolve_left h0
end
theorem oG {v : Value} {a b c : Int} (h : v.oneCell' = true) : [v, Value.int .i64 a, .int .i64 b, .int .i64 c].all Value.oneCell' = true := by simp only [List.all_cons, List.all_nil, h, Bool.and_true, Bool.true_and]; rfl
def RE (R T : Nat) (S : Sp) (how sp e : Int) (Rr : List Rw) : Prop := (e = 0 ∧ how = 1 ∧ 0 ≤ sp ∧ sp ≤ T ∧ Lb R S 0 ∧ CK S Rr) ∨ (e = 5 ∧ Lb R S 5) ∨ (e = 6 ∧ Lb R S 0 ∧ N3 S T)
def qR (b0 b1 : Int) : Prop := (0 ≤ b0 ∧ b0 ≤ 20000) ∧ 0 ≤ b1 ∧ b1 ≤ 1000000
instance (b0 b1 : Int) : Decidable (qR b0 b1) := inferInstanceAs (Decidable (_ ∧ _))
def Pk (R T : Nat) (S : Sp) (how why sp : Int) (Rr : List Rw) : Prop := (how = 1 ∧ why = 0 ∧ 0 ≤ sp ∧ sp ≤ T ∧ Lb R S 0 ∧ CK S Rr) ∨ (how = 2 ∧ Rr = yx S (lh S) ∧ ((why = 5 ∧ sp = 0 ∧ Lb R S 5) ∨ (why = 6 ∧ sp = T ∧ Lb R S 0 ∧ N3 S T)))
theorem O3 {b0 b1 : Int} (h : qR b0 b1) : ∃ R T : Nat, b0 = (R : Int) ∧ b1 = (T : Int) ∧ True ∧ R ≤ 20000 ∧ T ≤ 1000000 := by
 obtain ⟨⟨h1, h2⟩, h3, h4⟩ := h
 exact ⟨b0.toNat, b1.toNat, by omega, by omega, trivial, by omega, by omega⟩
section
variable {R T : Nat} {S : Sp} {how sp e : Int} {Rr : List Rw}
theorem BG (h : RE R T S how sp e Rr) (he : e = 0) : Pk (R : Int).toNat (T : Int).toNat S how 0 sp Rr := by
 rw [Int.toNat_natCast, Int.toNat_natCast]
 rcases h with h | h | h
 ·exact .inl ⟨h.2.1, rfl, h.2.2.1, h.2.2.2.1, h.2.2.2.2.1, h.2.2.2.2.2⟩
 ·have := h.1; omega
 ·have := h.1; omega
theorem Bl (h : RE R T S how sp e Rr) (he : e = 6) : Pk (R : Int).toNat (T : Int).toNat S 2 e (T : Int) (yx S (lh S)) := by
 rw [Int.toNat_natCast, Int.toNat_natCast]
 rcases h with h | h | h
 ·have := h.1; omega
 ·have := h.1; omega
 ·exact .inr ⟨rfl, rfl, .inr ⟨he, rfl, h.2⟩⟩
theorem tW (h : RE R T S how sp e Rr) (h0 : ¬ e = 0) (h6 : ¬ e = 6) : Pk (R : Int).toNat (T : Int).toNat S 2 e 0 (yx S (lh S)) := by
 rw [Int.toNat_natCast, Int.toNat_natCast]
 rcases h with h | h | h
 ·exact absurd h.1 h0
 ·exact .inr ⟨rfl, rfl, .inl ⟨h.1, rfl, h.2⟩⟩
 ·exact absurd h.1 h6
end
end
section
open Go Go.RowKit
theorem Oh : dD Tryz.prog 65 = true := by kernel_rfl
theorem Qf : dD Tryz.prog 66 = true := by kernel_rfl
theorem N1 : dD Tryz.prog 14 = true := by kernel_rfl
theorem m0 : eQ Tryz.prog 32 = some (.agg #[.slice none 0 0, .int .i64 0, .int .i64 0, .int .i64 0]) := by kernel_rfl
theorem tr : fK Tryz.prog 26 0 = some 0 := by kernel_rfl
theorem ON : dD Tryz.prog 42 = true := by kernel_rfl
theorem tm : (Tryz.prog.info? 29).map (·.size) = some 1 := by kernel_rfl
theorem jw {f : Nat → Value} {w : World} {d : Option Nat} {ty : TypeId} {ps : String} {af : Array Edge} {g : Option (Nat × Bool)}    :
    (execOp (dQ f) ⟨d, .build 32 #[], ty, ps, af, g⟩).run Tryz.prog w = .ok (.value (.agg #[.slice none 0 0, .int .i64 0, .int .i64 0, .int .i64 0])) w := by
  obtain ⟨i0, hi0, hz0⟩ := Option.bind_eq_some_iff.1 (show (Tryz.prog.info? 32).bind (·.zero) = _ from m0)
  obtain ⟨j3, hj3, hs3⟩ := Option.map_eq_some_iff.1 iq
  obtain ⟨j29, hj29, hs29⟩ := Option.map_eq_some_iff.1 tm
  obtain ⟨j30, hj30, hs30⟩ := Option.map_eq_some_iff.1 qD
  simp [execOp, Instr.build, zeroValue, typeInfo, sizeOf, hi0, hz0, run_underlying Tryz.underlying32, Instr.fill, ff, hj3, hs3, hj29, hs29, hj30, hs30]
theorem fp : lk Tryz.prog 32 = some 4 := by kernel_rfl
theorem O8 : dD Tryz.prog 43 = true := by kernel_rfl
theorem qA : fK Tryz.prog 26 1 = some 1 := by kernel_rfl
theorem P4 : dD Tryz.prog 45 = true := by kernel_rfl
theorem xg {f : Nat → Value} {w : World} {d : Option Nat} {ty : TypeId} {ps : String} {af : Array Edge} {g : Option (Nat × Bool)} {x0 x1 : Operand} {c0_0 c1_0 : Value} (h0 : dQ f x0 = c0_0) (k0 : c0_0.cells = #[c0_0]) (h1 : dQ f x1 = c1_0) (k1 : c1_0.cells = #[c1_0]) :
    (execOp (dQ f) ⟨d, .build 32 #[(1, x0), (3, x1)], ty, ps, af, g⟩).run Tryz.prog w = .ok (.value (.agg #[.slice none 0 0, c0_0, .int .i64 0, c1_0])) w := by
  obtain ⟨i0, hi0, hz0⟩ := Option.bind_eq_some_iff.1 (show (Tryz.prog.info? 32).bind (·.zero) = _ from m0)
  obtain ⟨j3, hj3, hs3⟩ := Option.map_eq_some_iff.1 iq
  obtain ⟨j29, hj29, hs29⟩ := Option.map_eq_some_iff.1 tm
  obtain ⟨j30, hj30, hs30⟩ := Option.map_eq_some_iff.1 qD
  simp [execOp, h0, k0, h1, k1, Instr.build, zeroValue, typeInfo, sizeOf, hi0, hz0, run_underlying Tryz.underlying32, Instr.fill, ff, hj3, hs3, hj29, hs29, hj30, hs30]
theorem ot : fK Tryz.prog 32 0 = some 0 := by kernel_rfl
theorem Py : dD Tryz.prog 21 = true := by kernel_rfl
theorem OP : dD Tryz.prog 22 = true := by kernel_rfl
theorem rJ {f : Nat → Value} {w : World} {d : Option Nat} {ty : TypeId} {ps : String} {af : Array Edge} {g : Option (Nat × Bool)} {x0 x1 x2 x3 : Operand} {c0_0 c1_0 c2_0 c3_0 : Value} (h0 : dQ f x0 = c0_0) (k0 : c0_0.cells = #[c0_0]) (h1 : dQ f x1 = c1_0) (k1 : c1_0.cells = #[c1_0]) (h2 : dQ f x2 = c2_0) (k2 : c2_0.cells = #[c2_0]) (h3 : dQ f x3 = c3_0) (k3 : c3_0.cells = #[c3_0]) :
    (execOp (dQ f) ⟨d, .build 32 #[(0, x0), (1, x1), (2, x2), (3, x3)], ty, ps, af, g⟩).run Tryz.prog w = .ok (.value (.agg #[c0_0, c1_0, c2_0, c3_0])) w := by
  obtain ⟨i0, hi0, hz0⟩ := Option.bind_eq_some_iff.1 (show (Tryz.prog.info? 32).bind (·.zero) = _ from m0)
  obtain ⟨j3, hj3, hs3⟩ := Option.map_eq_some_iff.1 iq
  obtain ⟨j29, hj29, hs29⟩ := Option.map_eq_some_iff.1 tm
  obtain ⟨j30, hj30, hs30⟩ := Option.map_eq_some_iff.1 qD
  simp [execOp, h0, k0, h1, k1, h2, k2, h3, k3, Instr.build, zeroValue, typeInfo, sizeOf, hi0, hz0, run_underlying Tryz.underlying32, Instr.fill, ff, hj3, hs3, hj29, hs29, hj30, hs30]
theorem o4 : lk Tryz.prog 26 = some 2 := by kernel_rfl
theorem N4 : dD Tryz.prog 19 = true := by kernel_rfl
theorem OB : eQ Tryz.prog 30 = some (.int .i64 0) := by kernel_rfl
theorem Ih : dD Tryz.prog 20 = true := by kernel_rfl
theorem z9 : eQ Tryz.prog 26 = some (.agg #[.int .i64 0, .int .i64 0]) := by kernel_rfl
theorem t9 {f : Nat → Value} {w : World} {d : Option Nat} {ty : TypeId} {ps : String} {af : Array Edge} {g : Option (Nat × Bool)}    :
    (execOp (dQ f) ⟨d, .build 26 #[], ty, ps, af, g⟩).run Tryz.prog w = .ok (.value (.agg #[.int .i64 0, .int .i64 0])) w := by
  obtain ⟨i0, hi0, hz0⟩ := Option.bind_eq_some_iff.1 (show (Tryz.prog.info? 26).bind (·.zero) = _ from z9)
  obtain ⟨j3, hj3, hs3⟩ := Option.map_eq_some_iff.1 iq
  simp [execOp, Instr.build, zeroValue, typeInfo, sizeOf, hi0, hz0, run_underlying Tryz.underlying26, Instr.fill, ff, hj3, hs3]
theorem qp {f : Nat → Value} {w : World} {d : Option Nat} {ty : TypeId} {ps : String} {af : Array Edge} {g : Option (Nat × Bool)} {x0 x1 : Operand} {c0_0 c1_0 : Value} (h0 : dQ f x0 = c0_0) (k0 : c0_0.cells = #[c0_0]) (h1 : dQ f x1 = c1_0) (k1 : c1_0.cells = #[c1_0]) :
    (execOp (dQ f) ⟨d, .build 26 #[(0, x0), (1, x1)], ty, ps, af, g⟩).run Tryz.prog w = .ok (.value (.agg #[c0_0, c1_0])) w := by
  obtain ⟨i0, hi0, hz0⟩ := Option.bind_eq_some_iff.1 (show (Tryz.prog.info? 26).bind (·.zero) = _ from z9)
  obtain ⟨j3, hj3, hs3⟩ := Option.map_eq_some_iff.1 iq
  simp [execOp, h0, k0, h1, k1, Instr.build, zeroValue, typeInfo, sizeOf, hi0, hz0, run_underlying Tryz.underlying26, Instr.fill, ff, hj3, hs3]
set_option maxRecDepth 20000 in
theorem vN (S : Sp) (onV mayV : Value) (R : Nat) (w : World) (hon : dO fQ 4 w onV S.on) (hmay : dO fQ 4 w mayV S.may) (hr : dL S = true) (hR : R ≤ 20000) :
    Fn Tryz.prog 42 #[.agg #[.int .i64 S.n, onV, mayV], .int .i64 (R : Int)] w fun v w' => ∃ x e, v = .tuple #[x, .int .i64 e] ∧ Lb R S e ∧ (e = 0 → dh fI 3 42 w' w.heap.size x (eV S)) := by
 refine dr (n := 31) Tryz.func42 rfl rfl (Nat.le_of_ble_eq_true rfl) ?_
 have hB : Below w.heap.size w w := Below.refl _ _
 refine Zr <| Zy (dW (c := #[_, _, _]) rfl rfl fun A W3 g m a => ?_)
 have B := ZO g hB
 clear g
 replace hB := Ze hB m
 refine Zw (.slice none 0 0) rfl <| Zw (.int .i64 0) rfl <| cT <| Zr <| Zi rfl <| ZC Oh (GW R _ hR) rfl fun C W8 h o => ?_
 have p := (Below.size hB)
 replace hB := Ze hB h
 replace a := h.at a
 obtain ⟨bz, ba, bm, rfl, hz, hD⟩ := o
 replace hD := fL.mono hD p
 refine Zw (.tuple #[.pointer (some ⟨bz, 0, none⟩), .int .i64 0]) rfl <| Zv (dK rfl) <| Zv (dM rfl) <| Zp rfl <| Zw (.int .i64 0) rfl <| cT <| cZ fun D r => Zr <| Zw (.int .i64 0) rfl <| Zv (gq rfl rfl) <| cT <| ZQ rfl (fun i => ?_) fun i => ?_
 exact absurd rfl i
 refine c9 <| r _ _ <| cZ fun E s => Zr <| Zp rfl <| Zv (db rfl eJ rfl a) <| ZH (vs := [.pointer (some ⟨bz, 0, none⟩), .agg #[_, _, _]]) Qf (Ab w _ _ _ _ _ S onV mayV _ hB hz hD hr hon hmay) rfl fun F G t => ?_
 obtain ⟨H, u, j, rfl, d, y, k⟩ := t
 replace hB := Below.dx hB (Nat.le_refl _) (Nat.le_refl _) d
 replace a := At.dx hD d a Dd Dd
 replace hz := At.dx hD d hz Dd Dd
 replace hD := y
 refine Zw (.tuple #[.int .i64 (u : Int), .int .i64 j]) rfl <| Zv (dK rfl) <| Zv (dM rfl) <| Zi rfl <| Zi rfl <| cT ?_
 have hro5 := hD.room
 have hwf5 := hD.wf
 refine Zr <| Zi rfl <| Zv (gq rfl rfl) <| cT <| ZQ rfl (fun f => ?_) fun f => ?_
 refine Zr <| Zi rfl <| Zw (.slice none 0 0) rfl <| Zi rfl <| cT <| Zt <| d8 (v := .slice none 0 0) rfl (v1 := .int .i64 _) rfl ⟨hB, ?_⟩
 exact ⟨_, _, rfl, ⟨_, _, k, hro5, hwf5⟩, fun q => absurd q f⟩
 refine c9 <| s _ _ ?_
 have he0 : j = 0 := Decidable.of_not_not f
 refine Zr <| Zv (db rfl eJ rfl a) <| ZC (vs := [.agg #[_, _, _]]) N1 (Bh S _ _  _ (Below.slT hB hon) (Below.slT hB hmay) ) rfl fun I J b l => ?_
 have z := (Below.size hB)
 replace hB := Ze hB b
 replace a := b.at a
 replace hD := fL.ext b hD
 replace hz := b.at hz
 rw [if_pos hr] at l
 obtain ⟨xl, rfl, hol⟩ := l
 replace hol := dh.mono hol z
 refine Zv (dK rfl) <| Zv (dM rfl) <| Zw xl rfl <| Zw (.int .i64 0) rfl <| cT <| Zt <| d8 (v := xl) rfl (v1 := .int .i64 0) rfl ⟨hB, ?_⟩
 exact ⟨_, _, rfl, ⟨_, _, he0 ▸ k, hro5, hwf5⟩, fun _ => hol⟩
set_option maxRecDepth 20000 in
theorem ww (S : Sp) (onV mayV : Value) (R T : Nat) (w : World) (hon : dO fQ 4 w onV S.on) (hmay : dO fQ 4 w mayV S.may) (hr : dL S = true) (hR : R ≤ 20000) (hT : T ≤ 1000000) (h4 : S.n ≤ 4) (h3 : S.on.length ≤ 3) :
    Fn Tryz.prog 19 #[.agg #[.int .i64 S.n, onV, mayV], .agg #[.int .i64 (R : Int), .int .i64 (T : Int)]] w fun v w' => ∃ x how sp e Rr, v = .tuple #[.agg #[x, .int .i64 how, .int .i64 0, .int .i64 sp], .int .i64 e] ∧ dh fI 3 42 w' w.heap.size x Rr ∧ RE R T S how sp e Rr := by
 refine dr (n := 91) Tryz.func19 rfl rfl (Nat.le_of_ble_eq_true rfl) ?_
 have hB : Below w.heap.size w w := Below.refl _ _
 refine Zr <| Zy (dW (c := #[_, _, _]) rfl rfl fun aB W3 ai aC f => ?_)
 have bm := ZO ai hB
 clear ai
 replace hB := Ze hB aC
 refine Zy (dW (c := #[_, _]) rfl rfl fun aD W6 aj ak g => ?_)
 have bn := ZO aj hB
 clear aj
 replace hB := Ze hB ak
 replace f := ak.at f
 refine Zy (dw m0 rfl fun al W9 ao U d => ?_)
 have V := ZO ao hB
 clear ao
 replace hB := Ze hB U
 replace f := U.at f
 replace g := U.at g
 refine Zw (.int .i64 0) rfl <| cT <| Zr <| Zv (db rfl eJ rfl f) <| Zf rfl tr <| Zl rfl dC g rfl <| ZC (vs := [.agg #[_, _, _], .int .i64 _]) ON (vN S _ _ R _ (Below.slT hB hon) (Below.slT hB hmay) hr hR) rfl fun bo bp L aE => ?_
 have aF := (Below.size hB)
 replace hB := Ze hB L
 replace f := L.at f
 replace g := L.at g
 replace d := L.at d
 obtain ⟨x1_3, e1_3, rfl, hno1_3, hxo1_3⟩ := aE
 have hszP := aF
 refine Zw (.tuple #[x1_3, .int .i64 e1_3]) rfl <| Zv (dK rfl) <| Zv (dM rfl) <| Zw x1_3 rfl <| Zw (.int .i64 e1_3) rfl <| cT <| cZ fun bq aG => Zr <| Zw (.int .i64 e1_3) rfl <| Zv (gq rfl rfl) <| cT <| ZQ rfl (fun X => ?_) fun X => ?_
 refine Zr <| Zv (jw ) <| Zw (.int .i64 e1_3) rfl <| Zy (dg rfl rfl fp rfl d rfl rfl fun br Y aH => ?_)
 replace hB := Zg hB Y V
 replace f := At.grownAt f d Y Dd
 replace g := At.grownAt g d Y Dd
 replace d := aH
 refine Zw (.int .i64 e1_3) rfl <| cT <| Zt <| fx rfl fp d rfl (v1 := .int .i64 e1_3) rfl ⟨hB, ?_⟩
 exact ⟨_, _, _, _, _, rfl, dh.nil, .inr (.inl (by obtain ⟨ns', id, h⟩ := hno1_3; obtain rfl := R4 h.1 X; exact ⟨rfl, ns', id, h⟩))⟩
 refine c9 <| aG _ _ ?_
 have he0 : e1_3 = 0 := Decidable.of_not_not X
 have hxo := dh.mono (hxo1_3 he0) hszP
 have hl2 := Gu hr h4 h3
 have hl4 : (eV S).length ≤ 4000 := by omega
 have aI := O9 hr hl4
 have aJ := j2 (S := S) hl4
 have hrl0 := HG hr
 refine Zr <| Zv (db rfl eJ rfl f) <| Zw x1_3 rfl <| ZC (vs := [.agg #[_, _, _], x1_3]) O8 (Ae S _ _ _ (eV S) _ (Below.slT hB hon) (Below.slT hB hmay) hxo.sl Om (N7 hr)) rfl fun bs bt H ap => ?_
 replace hB := Ze hB H
 replace f := H.at f
 replace g := H.at g
 replace d := H.at d
 replace hxo := H.ow hxo
 rw [if_pos aI] at ap
 obtain ⟨rv4_2, bu, rfl, hk4_2, hLO4_2⟩ := ap
 replace hk4_2 := dh.mono hk4_2 (Nat.zero_le _)
 replace hLO4_2 := LO.mono hLO4_2 (Nat.zero_le _)
 refine Zw (.tuple #[.agg #[.int .i64 _, rv4_2], .int .i64 0]) rfl <| Zv (dK rfl) <| Zv (dM rfl) <| Zy (dw ij rfl fun aK bv aq D i => ?_)
 have aL := ZO aq hB
 clear aq
 replace hB := Ze hB D
 replace f := D.at f
 replace g := D.at g
 replace d := D.at d
 replace hxo := D.ow hxo
 replace hk4_2 := D.ow hk4_2
 replace hLO4_2 := LO.ext D hLO4_2
 refine Zy (dg rfl rfl dJ rfl i rfl (by exact ik (dh.one hk4_2)) fun bw E aM => ?_)
 replace hB := Zg hB E aL
 replace f := At.grownAt f i E Dd
 replace g := At.grownAt g i E Dd
 replace d := At.grownAt d i E Dd
 replace hxo := dh.grownAt hxo i E Dd
 replace hk4_2 := dh.grownAt hk4_2 i E Dd
 replace hLO4_2 := LO.grownAt hLO4_2 i E Dd
 replace i := aM
 refine Zw (.int .i64 0) rfl <| cT <| cZ fun bx aN => Zr <| Zw (.int .i64 0) rfl <| Zv (gq rfl rfl) <| cT <| ZQ rfl (fun ar => ?_) fun ar => ?_
 exact absurd rfl ar
 refine c9 <| aN _ _ <| Zr <| Zv (db rfl dJ rfl i) <| ZC (vs := [.agg #[_, _]]) KB (pe _ _ _ (lP S (eV S)) _ (dh.mono hk4_2 (Nat.zero_le _)) (LO.mono hLO4_2 (Nat.zero_le _)) aJ Om) rfl fun bz bA C aO => ?_
 have aP := (Below.size hB)
 replace hB := Ze hB C
 replace f := C.at f
 replace g := C.at g
 replace d := C.at d
 replace hxo := C.ow hxo
 replace hk4_2 := C.ow hk4_2
 replace hLO4_2 := LO.ext C hLO4_2
 replace i := C.at i
 obtain ⟨tv7_1, T7_1, rv7_1, bB, L7_1, rfl, ht7_1, hk7_1, hLO7_1, hrd7_1, aQ, hln7_1, hTl7_1⟩ := aO
 skip
 replace ht7_1 := dh.mono ht7_1 aP
 refine Zw (.tuple #[tv7_1, .agg #[.int .i64 _, rv7_1], .int .i64 0]) rfl <| Zv (m7 rfl) <| Zv (rW rfl) <| Zv (rZ rfl) <| Zy (dw ij rfl fun aR bC Z s l => ?_)
 have aS := ZO Z hB
 have aT := Zn Z i.lt
 clear Z
 replace hB := Ze hB s
 replace f := s.at f
 replace g := s.at g
 replace d := s.at d
 replace hxo := s.ow hxo
 replace hk4_2 := s.ow hk4_2
 replace hLO4_2 := LO.ext s hLO4_2
 replace i := s.at i
 replace ht7_1 := s.ow ht7_1
 replace hk7_1 := s.ow hk7_1
 replace hLO7_1 := LO.ext s hLO7_1
 refine Zw tv7_1 rfl <| Zy (dg rfl rfl dJ rfl l rfl (by exact ik (dh.one hk7_1)) fun bD t aU => ?_)
 replace hB := Zg hB t aS
 replace f := At.grownAt f l t Dd
 replace g := At.grownAt g l t Dd
 replace d := At.grownAt d l t Dd
 replace hxo := dh.grownAt hxo l t Dd
 replace hk4_2 := dh.grownAt hk4_2 l t Dd
 replace hLO4_2 := LO.grownAt hLO4_2 l t Dd
 replace i := At.grownNe i aT t
 replace ht7_1 := dh.grownAt ht7_1 l t Dd
 replace hk7_1 := dh.grownAt hk7_1 l t Dd
 replace hLO7_1 := LO.grownAt hLO7_1 l t Dd
 replace l := aU
 refine Zw (.int .i64 0) rfl <| cT <| Zr <| Zv (db rfl dJ rfl l) <| Zf rfl qA <| Zl rfl dC g rfl <| ZC (vs := [.agg #[_, _], .int .i64 _]) P4 (uw _ _ _ L7_1 (T : Int) _ (dh.mono hk7_1 (Nat.zero_le _)) (LO.mono hLO7_1 (Nat.zero_le _)) aQ Om (GF hr hl4 hrd7_1) Om) rfl fun bE bF q aV => ?_
 have bG := dh.lt2 ht7_1
 have aW := (Below.size hB)
 replace hB := Ze hB q
 replace f := q.at f
 replace g := q.at g
 replace d := q.at d
 replace hxo := q.ow hxo
 replace hk4_2 := q.ow hk4_2
 replace hLO4_2 := LO.ext q hLO4_2
 replace i := q.at i
 replace ht7_1 := q.ow ht7_1
 replace hk7_1 := q.ow hk7_1
 replace hLO7_1 := LO.ext q hLO7_1
 replace l := q.at l
 obtain ⟨tv8_3, X8_3, s8_3, e8_3, rfl, ht8_3, hXl8_3, aX, hsb8_3, hfw8_3, hto8_3⟩ := Gw aV (Int.natCast_nonneg _)
 replace ht8_3 := dh.mono ht8_3 aW
 refine Zw (.tuple #[tv8_3, .int .i64 s8_3, .int .i64 e8_3]) rfl <| Zv (m7 rfl) <| Zv (rW rfl) <| Zv (rZ rfl) <| Zw tv8_3 rfl <| Zw (.int .i64 s8_3) rfl <| Zw (.int .i64 e8_3) rfl <| cT <| cZ fun bH aY => Zr <| Zw (.int .i64 e8_3) rfl <| Zv (gq rfl rfl) <| cT <| ZQ rfl (fun M => ?_) fun M => ?_
 refine Zr <| Zv (jw ) <| Zw (.int .i64 e8_3) rfl <| Zy (dg rfl rfl fp rfl d rfl rfl fun bI A aZ => ?_)
 replace hB := Zg hB A V
 replace f := At.grownAt f d A Dd
 replace g := At.grownAt g d A Dd
 replace hxo := dh.grownAt hxo d A Dd
 replace hk4_2 := dh.grownAt hk4_2 d A Dd
 replace i := At.grownAt i d A Dd
 replace ht7_1 := dh.grownAt ht7_1 d A Dd
 replace hk7_1 := dh.grownAt hk7_1 d A Dd
 replace l := At.grownAt l d A Dd
 replace ht8_3 := dh.grownAt ht8_3 d A Dd
 clear hLO4_2 hLO7_1
 replace d := aZ
 refine Zw (.int .i64 e8_3) rfl <| cT <| Zt <| fx rfl fp d rfl (v1 := .int .i64 e8_3) rfl ⟨hB, ?_⟩
 exact ⟨_, _, _, _, _, rfl, dh.nil, .inr (.inr ⟨(hto8_3 M).1, he0 ▸ hno1_3, L7_1, T7_1, hrd7_1, by have := (hto8_3 M).2; rwa [Int.toNat_natCast] at this⟩)⟩
 refine c9 <| aY _ _ <| Zr <| Zy (gN (enc := eO) (encV := Value.bool) fun N bJ au p G => ?_)
 have a0 := ZO au hB
 clear au
 replace hB := Ze hB p
 replace f := p.at f
 replace g := p.at g
 replace d := p.at d
 replace hxo := p.ow hxo
 replace hk4_2 := p.ow hk4_2
 replace hLO4_2 := LO.ext p hLO4_2
 replace i := p.at i
 replace ht7_1 := p.ow ht7_1
 replace hk7_1 := p.ow hk7_1
 replace hLO7_1 := LO.ext p hLO7_1
 replace l := p.at l
 replace ht8_3 := p.ow ht8_3
 replace G : dT eO Value.bool _ _ (fF []) := G
 refine Zw (.map (some N)) rfl <| cT <| cZ fun bK a1 => Zr <| Zw tv7_1 rfl <| Zw tv8_3 rfl <| Zy (eC (v := tv7_1) (v2 := tv8_3) rfl rfl dy fH Dd ht7_1 ht8_3.sl (kM) (by have := Below.size hB; omega) Om Om fun aa bL B o => ?_)
 replace o := dh.app (enc := ee) rfl rfl rfl rfl o
 replace hB := ZG hB B ht7_1
 replace f := At.grownOw f ht7_1 B Dd
 replace g := At.grownOw g ht7_1 B Dd
 replace d := At.grownOw d ht7_1 B Dd
 replace hxo := dh.grownOw hxo ht7_1 B Dd
 replace hk4_2 := dh.grownOw hk4_2 ht7_1 B Dd
 replace i := At.grownOw i ht7_1 B Dd
 replace hk7_1 := dh.grownOw hk7_1 ht7_1 B Dd
 replace l := At.grownOw l ht7_1 B Dd
 replace G := dT.grownOw G ht7_1 B
 clear hLO4_2 hLO7_1 ht8_3 ht7_1
 refine Zv (dB (v := aa) rfl o.sl dy) <| Zw (.int .i64 0) rfl <| cT <| c7 ?_
 refine dz (σ := (Nat)) [16, 64, 65, 66, 67, 68, 69, 70] (fun j => [(64, .int .i64 (j : Int))]) (fun j W => (Below w.heap.size w W) ∧ (At W aB _ 24) ∧ (At W aD _ 26) ∧ (At W al _ 32) ∧ (dh fI 3 42 W w.heap.size x1_3 _) ∧ (dh encV 1 80 W 0 rv4_2 _) ∧ (At W aK _ 77) ∧ (dh encV 1 80 W 0 rv7_1 _) ∧ (At W aR _ 77) ∧ (dh ee 1 3 W w.heap.size aa _) ∧ (dT eO Value.bool W N (fF (pr [] (T7_1 ++ X8_3) j))) ∧ (j ≤ (T7_1 ++ X8_3).length) ∧ (True)) (fun j => (T7_1 ++ X8_3).length - j) (0) ⟨rfl, trivial⟩ ⟨hB, f, g, d, hxo, hk4_2, i, hk7_1, l, o, G, (Nat.zero_le _), trivial⟩ ?_
 clear hB f g d hxo hk4_2 i hk7_1 l G o
 rintro j bM I ⟨hB, f, g, d, hxo, hk4_2, i, hk7_1, l, o, hmk, hj, _⟩ bN a2
 have hcl : (T7_1 ++ X8_3).length ≤ 16000 := by rw [List.length_append]; omega
 refine Zr <| Zv (dN rfl rfl) <| cT <| cZ fun bO a3 => ZQ rfl (fun a4 => ?_) fun a4 => ?_
 refine c9 <| a3 _ _ <| cZ fun bP a5 => c7 <| Zr <| Zv (dI (v := aa) rfl o.sl rfl dy Om Om) <| Zv (dk (v := .int .i64 _) rfl dC (dO.cell o.sl eI 0 Om Om 0 rfl)) <| Zi rfl <| cT <| cY <| Zw (.map (some N)) rfl <| Zi rfl ?_
 refine gW (dd := none) rfl rfl rfl (fS (enc := eO) (encV := Value.bool) (k := ((T7_1 ++ X8_3).getD j 0)) (v := true) rfl rfl rfl nD gM (fun a => ⟨a, rfl⟩) gf hmk (fun bQ y a6 => ?_))
 replace hB := Zg hB y a0
 replace f := At.grownMap f hmk y
 replace g := At.grownMap g hmk y
 replace d := At.grownMap d hmk y
 replace hxo := dh.grownMap hxo hmk y
 replace hk4_2 := dh.grownMap hk4_2 hmk y
 replace i := At.grownMap i hmk y
 replace hk7_1 := dh.grownMap hk7_1 hmk y
 replace l := At.grownMap l hmk y
 replace o := dh.grownMap o hmk y
 clear y hmk
 replace hmk := a6
 rw [jz] at hmk
 refine cT <| a5 _ _ <| cY <| Zv (dp rfl rfl Om Om) <| Zi rfl <| cT ?_
 exact a2 _ _ (j + 1) Za ⟨rfl, trivial⟩ ⟨hB, f, g, d, hxo, hk4_2, i, hk7_1, l, o, (by exact hmk), Om, trivial⟩ Zo
 refine dt <| a1 _ _ ?_
 have a7 := Below.slT hB hon
 have a8 := Below.slT hB hmay
 have ab := hB
 replace hB := Below.refl I.heap.size I
 obtain rfl : j = (T7_1 ++ X8_3).length := by omega
 refine Zr <| Zw (.int .i64 s8_3) rfl <| Zv (xg (h0 := rfl) (k0 := rfl) (h1 := rfl) (k1 := rfl) (c0_0 := .int .i64 1) (c1_0 := .int .i64 s8_3)) <| Zy (dw m0 rfl fun av bR ac a9 m => ?_)
 have O := ZO ac hB
 have ba : al ≠ av := Nat.ne_of_lt (ac ▸ (Below.atI hB d).lt)
 clear ac
 replace hB := Ze hB a9
 refine Zy (dg rfl rfl fp rfl m rfl rfl fun bS bb bc => ?_)
 replace hB := Zg hB bb O
 replace m := bc
 refine cT <| cZ fun bT bd => Zr <| Zw x1_3 rfl <| Zv (dB (v := x1_3) rfl ((Below.ow hB hxo)).sl dR) <| Zw (.int .i64 0) rfl <| cT <| c7 ?_
 refine dz (σ := (Nat) × (Value)) [18, 19, 75, 76, 77, 78, 79, 80, 81, 82, 83, 84, 85, 86, 87, 88, 89] (fun (k, v0) => [(75, .int .i64 (k : Int))]) (fun sg W => match sg with | (k, v0) => (Below I.heap.size I W) ∧ (At W av #[v0, .int .i64 1, .int .i64 0, .int .i64 s8_3] 32) ∧ (dh fI 3 42 W I.heap.size v0 (xN (eV S) (pr [] (T7_1 ++ X8_3) (T7_1 ++ X8_3).length) k)) ∧ (k ≤ (eV S).length) ∧ (True)) (fun (k, v0) => (eV S).length - k) ((0, .slice none 0 0)) ⟨rfl, trivial⟩ ⟨hB, m, dh.nil, (Nat.zero_le _), trivial⟩ ?_
 clear hB m
 rintro ⟨k, v0⟩ bU bV ⟨hB, m, ho, hk, _⟩ bW aw
 refine Zr <| Zv (dN rfl rfl) <| cT <| cZ fun bX bf => ZQ rfl (fun bg => ?_) fun bg => ?_
 refine c9 <| bf _ _ <| cZ fun bY ax => c7 <| Zr <| Zi rfl <| Zv (dI (v := x1_3) rfl ((Below.ow hB hxo)).sl rfl dR Om Om) <| Zv (kU rfl eq (dO.cell ((Below.ow hB hxo)).sl eg ⟨⟨0, 0⟩, 0⟩ Om Om 0 rfl) (dO.cell ((Below.ow hB hxo)).sl eg ⟨⟨0, 0⟩, 0⟩ Om Om 1 rfl) (dO.cell ((Below.ow hB hxo)).sl eg ⟨⟨0, 0⟩, 0⟩ Om Om 2 rfl)) <| Zy (dw kL rfl fun ay bZ P ad z => ?_)
 have bh := ZO P hB
 have b0 := dh.neB (b := ay) (Below.ow hB hxo) (Nat.le_of_eq P.symm)
 have az := dh.neB (b := ay) ho (Nat.le_of_eq P.symm)
 clear P
 replace hB := Ze hB ad
 replace m := ad.at m
 replace ho := ad.ow ho
 refine Zi rfl <| Zy (dg rfl rfl eq rfl z rfl rfl fun b1 ae bi => ?_)
 replace hB := Zg hB ae bh
 replace m := At.grownAt m z ae Dd
 replace ho := dh.grownAtNe ho az ae
 replace z := bi
 refine cT <| Zr <| Zw (.map (some N)) rfl <| Zi rfl <| Zv (f7 (enc := eO) (encV := Value.bool) (v0 := false) (k := _) rfl rfl nD gM (fun a => ⟨a, rfl⟩) gf pp rfl (Below.mapI hB hmk)) <| cT <| ZQ rfl (fun J => ?_) fun J => ?_
 refine cY <| Zf rfl ot <| ZL v0 rfl mg m rfl <| Zv (db rfl eq rfl z) <| Zy (eU (u := .agg #[_, _, _]) rfl dR fN rfl Dd Dd fun af b2 K Q bj => ?_)
 have b3 := ZO K hB
 have b4 := dh.neB (b := af) (Below.ow hB hxo) (Nat.le_of_eq K.symm)
 have b5 := dh.neB (b := af) ho (Nat.le_of_eq K.symm)
 have b6 := Zn K z.lt
 clear K
 replace hB := Ze hB Q
 replace m := Q.at m
 replace ho := Q.ow ho
 replace z := Q.at z
 refine Zy (eC (v := v0) (v2 := .slice (some ⟨af, 0, none⟩) 1 1) rfl rfl dR fN Dd ho (fm bj rfl) rfl (by have := Below.size hB; omega) (by have := FU (eV S) (pr [] (T7_1 ++ X8_3) (T7_1 ++ X8_3).length) k; omega) (by have := FU (eV S) (pr [] (T7_1 ++ X8_3) (T7_1 ++ X8_3).length) k; omega) fun aA b7 ag F => ?_)
 replace F := dh.snoc (enc := fI) (x := ((eV S).getD k ⟨⟨0, 0⟩, 0⟩)) rfl rfl rfl rfl F
 replace hB := ZG hB ag ho
 replace m := At.grownOw m ho ag Dd
 replace z := At.grownOwNe z az ag
 clear ho
 refine Zf rfl ot <| Zy (eH (v := aA) rfl rfl mg (dO.one F.sl) m (by simp) fun b8 ah bk => ?_)
 replace hB := Zg hB ah O
 replace z := At.grownAt z m ah Dd
 replace F := dh.grownAt F m ah Dd
 replace m := bk
 replace m : At _ _ #[_, _, _, _] _ := m
 refine cT <| ax _ _ <| cY <| Zv (dp rfl rfl Om Om) <| Zi rfl <| cT ?_
 exact aw _ _ ((k + 1, aA)) Za ⟨rfl, trivial⟩ ⟨hB, (by exact m), (by first | (rw [← NE (nI J)]; exact F) | (rw [← NN (lQ J)]; exact F)), Om, trivial⟩ (by show (eV S).length - (k + 1) < (eV S).length - k; omega)
 refine c9 <| ax _ _ <| cY <| Zv (dp rfl rfl Om Om) <| Zi rfl <| cT ?_
 exact aw _ _ ((k + 1, v0)) Za ⟨rfl, trivial⟩ ⟨hB, (by exact m), (by first | (rw [← NE (nI J)]; exact ho) | (rw [← NN (lQ J)]; exact ho)), Om, trivial⟩ (by show (eV S).length - (k + 1) < (eV S).length - k; omega)
 refine dt <| bd _ _ ?_
 try clear a7
 try clear a8
 replace f := Below.atI hB f
 replace g := Below.atI hB g
 replace d := Below.atI hB d
 replace hxo := Below.ow hB hxo
 replace hk4_2 := Below.ow hB hk4_2
 replace i := Below.atI hB i
 replace hk7_1 := Below.ow hB hk7_1
 replace l := Below.atI hB l
 replace o := Below.ow hB o
 replace hmk := Below.mapI hB hmk
 have hzs := Nat.le_trans (Nat.le_refl _) (Below.size ab)
 replace O := Nat.le_trans hzs O
 replace ho := dh.mono ho hzs
 replace hB := Below.trans ab (Below.mono hB hzs)
 clear ab hzs
 obtain rfl : k = (eV S).length := by omega
 refine Zr <| Zv (db rfl fp rfl m) <| Zy (dg rfl rfl fp rfl d rfl (by exact oG (dh.one ho)) fun b9 r bl => ?_)
 replace f := At.grownAt f d r Dd
 replace g := At.grownAt g d r Dd
 replace hxo := dh.grownAt hxo d r Dd
 replace hk4_2 := dh.grownAt hk4_2 d r Dd
 replace i := At.grownAt i d r Dd
 replace hk7_1 := dh.grownAt hk7_1 d r Dd
 replace l := At.grownAt l d r Dd
 replace o := dh.grownAt o d r Dd
 replace hmk := dT.grownAt hmk d r
 replace hB := Zg hB r V
 replace m := At.grownNe m (Ne.symm ba) r
 replace ho := dh.grownAt ho d r Dd
 replace d := bl
 refine Zw (.int .i64 0) rfl <| cT <| Zt <| fx rfl fp d rfl (v1 := .int .i64 0) rfl ⟨hB, ?_⟩
 exact ⟨_, _, _, _, _, rfl, ho, .inl ⟨rfl, rfl, aX, hsb8_3, he0 ▸ hno1_3, Mb hr hl4 hrd7_1 (hfw8_3 (Decidable.of_not_not M)) (fun c => PU) (wq List.nodup_nil _)⟩⟩
theorem mC (S : Sp) (onV mayV : Value) (p q : Int) (bs be : Nat) (w : World) (hon : dO fQ 4 w onV S.on) (hmay : dO fQ 4 w mayV S.may) (hr : dL S = true) (hsp : At w bs #[.int .i64 S.n, onV, mayV] 24) (hbe : At w be #[.int .i64 q] 30) :
    Fn Tryz.prog 20 #[.int .i64 p, .pointer (some ⟨bs, 0, none⟩), .pointer (some ⟨be, 0, none⟩)] w fun v w' => ∃ x, v = .tuple #[.agg #[x, .int .i64 2, .int .i64 q, .int .i64 p], .int .i64 0] ∧ dh fI 3 42 w' w.heap.size x (yx S (lh S)) := by
 refine dr (n := 26) Tryz.func20 rfl rfl (Nat.le_of_ble_eq_true rfl) ?_
 have hB : Below w.heap.size w w := Below.refl _ _
 refine Zr <| Zy (dw m0 rfl fun m W3 d h a => ?_)
 have i := ZO d hB
 clear d
 replace hB := Ze hB h
 refine Zw (.int .i64 0) rfl <| cT <| Zr <| Zv (db rfl eJ rfl (Below.atI hB hsp)) <| ZC (vs := [.agg #[_, _, _]]) Py (AK S _ _  _ (Below.slT hB hon) (Below.slT hB hmay) ) rfl fun o W8 e f => ?_
 have j := (Below.size hB)
 replace hB := Ze hB e
 replace a := e.at a
 rw [if_pos hr] at f
 obtain ⟨xpl, rfl, hpl⟩ := f
 replace hpl := dh.mono hpl j
 refine Zw (.tuple #[xpl, .int .i64 0]) rfl <| Zv (dK rfl) <| Zv (dM rfl) <| Zw xpl rfl <| Zw (.int .i64 0) rfl <| cT <| Zr <| Zv (db rfl eJ rfl (Below.atI hB hsp)) <| Zw xpl rfl <| ZC (vs := [.agg #[_, _, _], xpl]) OP (BU S _ _ _ (lh S) _ (Below.slT hB hon) (Below.slT hB hmay) hpl.sl (by have := Ha hr; omega) (Lz hr) (by have := (dX.1 hr); omega)) rfl fun r s b g => ?_
 have t := dh.lt2 hpl
 have k := (Below.size hB)
 replace hB := Ze hB b
 replace a := b.at a
 replace hpl := b.ow hpl
 rw [if_pos (Gs hr)] at g
 obtain ⟨xtn, rfl, htn⟩ := g
 replace htn := dh.mono htn k
 refine Zw (.tuple #[xtn, .int .i64 0]) rfl <| Zv (dK rfl) <| Zv (dM rfl) <| Zw xtn rfl <| Zw (.int .i64 0) rfl <| cT <| Zr <| Zw xtn rfl <| Zl rfl j1 (Below.atI hB hbe) rfl <| Zi rfl <| Zv (rJ (h0 := rfl) (k0 := dO.cells htn.sl) (h1 := rfl) (k1 := rfl) (h2 := rfl) (k2 := rfl) (h3 := rfl) (k3 := rfl) (c0_0 := xtn) (c1_0 := .int .i64 2) (c2_0 := .int .i64 _) (c3_0 := .int .i64 _)) <| Zw (.int .i64 0) rfl <| Zy (dg rfl rfl fp rfl a rfl (by exact oG (dh.one htn)) fun u c l => ?_)
 replace hB := Zg hB c i
 replace hpl := dh.grownAt hpl a c Dd
 replace htn := dh.grownAt htn a c Dd
 replace a := l
 refine Zw (.int .i64 0) rfl <| cT <| Zt <| fx rfl fp a rfl (v1 := .int .i64 0) rfl ⟨hB, ?_⟩
 exact ⟨_, rfl, htn⟩
theorem ld (S : Sp) (onV mayV : Value) (b0 b1 : Int) (w : World) (hon : dO fQ 4 w onV S.on) (hmay : dO fQ 4 w mayV S.may) (hs : dL S = true → S.n ≤ 4 ∧ S.on.length ≤ 3) :
    Fn Tryz.prog 9 #[.agg #[.int .i64 S.n, onV, mayV], .agg #[.int .i64 b0, .int .i64 b1]] w fun v w' => if dL S = true ∧ qR b0 b1 then ∃ x how why sp Rr, v = .tuple #[.agg #[x, .int .i64 how, .int .i64 why, .int .i64 sp], .int .i64 0] ∧ dh fI 3 42 w' w.heap.size x Rr ∧ Pk b0.toNat b1.toNat S how why sp Rr else v = .tuple #[.agg #[.slice none 0 0, .int .i64 0, .int .i64 0, .int .i64 0], .int .i64 1] := by
 refine dr (n := 56) Tryz.func9 rfl rfl (Nat.le_of_ble_eq_true rfl) ?_
 have hB : Below w.heap.size w w := Below.refl _ _
 refine Zr <| Zy (dW (c := #[_, _, _]) rfl rfl fun m W3 Q Y b => ?_)
 have aC := ZO Q hB
 clear Q
 replace hB := Ze hB Y
 refine Zy (dW (c := #[_, _]) rfl rfl fun aD W6 U V d => ?_)
 have aE := ZO U hB
 clear U
 replace hB := Ze hB V
 replace b := V.at b
 refine Zy (dw m0 rfl fun aF W9 W G a => ?_)
 have o := ZO W hB
 clear W
 replace hB := Ze hB G
 replace b := G.at b
 replace d := G.at d
 refine Zw (.int .i64 0) rfl <| cT <| cZ fun aG Z => Zr <| Zv (db rfl eJ rfl b) <| ZC (vs := [.agg #[_, _, _]]) pQ (im S _ _  _ (Below.slT hB hon) (Below.slT hB hmay) ) rfl fun aH aI D aa => ?_
 replace hB := Ze hB D
 replace b := D.at b
 replace d := D.at d
 replace a := D.at a
 obtain rfl := aa
 refine Zv (fG rfl) <| ZX rfl (fun H => ?_) fun H => ?_
 refine Zs <| Zs <| Zs <| Zw (.bool true) rfl <| Zw (.bool true) rfl <| Zs <| Zs <| Zs <| Zw (.bool true) rfl <| Zw (.bool true) rfl <| Zs <| Zs <| Zs <| Zw (.bool true) rfl ?_
 refine Zw (.bool true) rfl <| Zs <| Zs <| Zs <| Zw (.bool true) rfl <| cT <| dA rfl ?_
 have hno : ¬ (dL S = true ∧ qR b0 b1) := fun h => by rw [iI H] at h; exact Bool.noConfusion h.1
 refine Zr <| Zv (jw ) <| Zy (dg rfl rfl fp rfl a rfl rfl fun aJ I ab => ?_)
 replace hB := Zg hB I o
 replace b := At.grownAt b a I Dd
 replace d := At.grownAt d a I Dd
 replace a := ab
 refine Zw (.int .i64 1) rfl <| cT <| Zt <| fx rfl fp a rfl (v1 := .int .i64 1) rfl ⟨hB, ?_⟩
 first | rw [if_neg hno] | (rw [if_pos ⟨hr, hm⟩]; first | exact ⟨_, _, _, _, _, rfl, k, Bl hfo3_2 i⟩ | exact ⟨_, _, _, _, _, rfl, l, tW hfo3_2 j i⟩ | exact ⟨_, _, _, _, _, rfl, e, BG hfo3_2 j⟩)
 refine Zf rfl tr <| Zl rfl dC d rfl <| Zv (dN rfl rfl) <| Zb rfl <| ZX rfl (fun ac => ?_) fun ac => ?_
 refine Zs <| Zs <| Zs <| Zw (.bool true) rfl <| Zw (.bool true) rfl <| Zs <| Zs <| Zs <| Zw (.bool true) rfl <| Zw (.bool true) rfl <| Zs <| Zs <| Zs <| Zw (.bool true) rfl ?_
 refine cT <| dA rfl ?_
 have hno : ¬ (dL S = true ∧ qR b0 b1) := fun h => by have := h.2; unfold qR at this; omega
 refine Zr <| Zv (jw ) <| Zy (dg rfl rfl fp rfl a rfl rfl fun aK J ad => ?_)
 replace hB := Zg hB J o
 replace b := At.grownAt b a J Dd
 replace d := At.grownAt d a J Dd
 replace a := ad
 refine Zw (.int .i64 1) rfl <| cT <| Zt <| fx rfl fp a rfl (v1 := .int .i64 1) rfl ⟨hB, ?_⟩
 first | rw [if_neg hno] | (rw [if_pos ⟨hr, hm⟩]; first | exact ⟨_, _, _, _, _, rfl, k, Bl hfo3_2 i⟩ | exact ⟨_, _, _, _, _, rfl, l, tW hfo3_2 j i⟩ | exact ⟨_, _, _, _, _, rfl, e, BG hfo3_2 j⟩)
 refine Zf rfl tr <| Zl rfl dC d rfl <| Zv (jp rfl rfl) <| Zb rfl <| ZX rfl (fun ae => ?_) fun ae => ?_
 refine Zs <| Zs <| Zs <| Zw (.bool true) rfl <| Zw (.bool true) rfl <| Zs <| Zs <| Zs <| Zw (.bool true) rfl <| cT <| dA rfl ?_
 have hno : ¬ (dL S = true ∧ qR b0 b1) := fun h => by have := h.2; unfold qR at this; omega
 refine Zr <| Zv (jw ) <| Zy (dg rfl rfl fp rfl a rfl rfl fun aL K af => ?_)
 replace hB := Zg hB K o
 replace b := At.grownAt b a K Dd
 replace d := At.grownAt d a K Dd
 replace a := af
 refine Zw (.int .i64 1) rfl <| cT <| Zt <| fx rfl fp a rfl (v1 := .int .i64 1) rfl ⟨hB, ?_⟩
 first | rw [if_neg hno] | (rw [if_pos ⟨hr, hm⟩]; first | exact ⟨_, _, _, _, _, rfl, k, Bl hfo3_2 i⟩ | exact ⟨_, _, _, _, _, rfl, l, tW hfo3_2 j i⟩ | exact ⟨_, _, _, _, _, rfl, e, BG hfo3_2 j⟩)
 refine Zf rfl qA <| Zl rfl dC d rfl <| Zv (dN rfl rfl) <| Zb rfl <| ZX rfl (fun ag => ?_) fun ag => ?_
 refine Zs <| Zs <| Zs <| Zw (.bool true) rfl <| cT <| dA rfl ?_
 have hno : ¬ (dL S = true ∧ qR b0 b1) := fun h => by have := h.2; unfold qR at this; omega
 refine Zr <| Zv (jw ) <| Zy (dg rfl rfl fp rfl a rfl rfl fun aM L ah => ?_)
 replace hB := Zg hB L o
 replace b := At.grownAt b a L Dd
 replace d := At.grownAt d a L Dd
 replace a := ah
 refine Zw (.int .i64 1) rfl <| cT <| Zt <| fx rfl fp a rfl (v1 := .int .i64 1) rfl ⟨hB, ?_⟩
 first | rw [if_neg hno] | (rw [if_pos ⟨hr, hm⟩]; first | exact ⟨_, _, _, _, _, rfl, k, Bl hfo3_2 i⟩ | exact ⟨_, _, _, _, _, rfl, l, tW hfo3_2 j i⟩ | exact ⟨_, _, _, _, _, rfl, e, BG hfo3_2 j⟩)
 refine Zf rfl qA <| Zl rfl dC d rfl <| Zv (jp rfl rfl) <| Zb rfl <| cT <| ZQ rfl (fun ai => ?_) fun ai => ?_
 have hno : ¬ (dL S = true ∧ qR b0 b1) := fun h => by have := h.2; unfold qR at this; omega
 refine Zr <| Zv (jw ) <| Zy (dg rfl rfl fp rfl a rfl rfl fun aN M aj => ?_)
 replace hB := Zg hB M o
 replace b := At.grownAt b a M Dd
 replace d := At.grownAt d a M Dd
 replace a := aj
 refine Zw (.int .i64 1) rfl <| cT <| Zt <| fx rfl fp a rfl (v1 := .int .i64 1) rfl ⟨hB, ?_⟩
 first | rw [if_neg hno] | (rw [if_pos ⟨hr, hm⟩]; first | exact ⟨_, _, _, _, _, rfl, k, Bl hfo3_2 i⟩ | exact ⟨_, _, _, _, _, rfl, l, tW hfo3_2 j i⟩ | exact ⟨_, _, _, _, _, rfl, e, BG hfo3_2 j⟩)
 refine c9 <| Z _ _ ?_
 have hr : dL S = true := ig H
 have hm : qR b0 b1 := ⟨⟨by omega, by omega⟩, by omega, by omega⟩
 obtain ⟨R, T, rfl, rfl, hbd⟩ := O3 hm
 refine Zr <| Zv (db rfl eJ rfl b) <| Zv (db rfl o4 rfl d) <| ZC (vs := [.agg #[_, _, _], .agg #[_, _]]) N4 (ww S _ _ R T _ (Below.slT hB hon) (Below.slT hB hmay) hr hbd.2.1 hbd.2.2 (hs hr).1 (hs hr).2) rfl fun aO aP E ak => ?_
 have al := (Below.size hB)
 replace hB := Ze hB E
 replace b := E.at b
 replace d := E.at d
 replace a := E.at a
 obtain ⟨x3_2, how3_2, sp3_2, e3_2, Rr3_2, rfl, e, hfo3_2⟩ := ak
 replace e := dh.mono e al
 refine Zw (.tuple #[.agg #[x3_2, .int .i64 how3_2, .int .i64 0, .int .i64 sp3_2], .int .i64 e3_2]) rfl <| Zv (dK rfl) <| Zv (dM rfl) <| Zy (dw m0 rfl fun aQ aR N C g => ?_)
 have ao := ZO N hB
 have F := Zn N a.lt
 clear N
 replace hB := Ze hB C
 replace b := C.at b
 replace d := C.at d
 replace a := C.at a
 replace e := C.ow e
 refine Zy (dw OB rfl fun p aS X y f => ?_)
 have ap := ZO X hB
 clear X
 replace hB := Ze hB y
 replace b := y.at b
 replace d := y.at d
 replace a := y.at a
 replace e := y.ow e
 replace g := y.at g
 refine Zy (dg rfl rfl fp rfl g rfl (by exact oG (dh.one e)) fun aT z aq => ?_)
 replace hB := Zg hB z ao
 replace b := At.grownAt b g z Dd
 replace d := At.grownAt d g z Dd
 replace a := At.grownNe a F z
 replace e := dh.grownAt e g z Dd
 replace f := At.grownAt f g z Dd
 replace g := aq
 refine Zy (eH (v := .int .i64 e3_2) rfl rfl j1 rfl f (by exact Nat.zero_lt_one) fun aU A ar => ?_)
 replace hB := Zg hB A ap
 replace b := At.grownAt b f A Dd
 replace d := At.grownAt d f A Dd
 replace a := At.grownAt a f A Dd
 replace e := dh.grownAt e f A Dd
 replace g := At.grownAt g f A Dd
 replace f := ar
 replace f : At _ _ #[_] _ := f
 refine cT <| Zr <| Zv (gZ (vs := #[.pointer (some ⟨m, 0, none⟩), .pointer (some ⟨p, 0, none⟩)]) (by simp only [List.map_toArray, List.map_cons, List.map_nil]; rfl)) <| Zw (.func (.func 20) #[] #[.pointer (some ⟨m, 0, none⟩), .pointer (some ⟨p, 0, none⟩)]) rfl <| cT <| cZ fun aV au => Zr <| ZL (.int .i64 e3_2) rfl j1 f rfl <| cT <| c7 <| Zr <| Zv (eD rfl rfl) <| Zb rfl <| cT ?_
 refine ZQ rfl (fun j => ?_) fun j => ?_
 refine Zr <| Zv (db rfl fp rfl g) <| Zy (dg rfl rfl fp rfl a rfl (by exact oG (dh.one e)) fun aW B av => ?_)
 replace hB := Zg hB B o
 replace b := At.grownAt b a B Dd
 replace d := At.grownAt d a B Dd
 replace e := dh.grownAt e a B Dd
 replace g := At.grownNe g (Ne.symm F) B
 replace f := At.grownAt f a B Dd
 replace a := av
 refine Zw (.int .i64 0) rfl <| cT <| Zt <| fx rfl fp a rfl (v1 := .int .i64 0) rfl ⟨hB, ?_⟩
 first | rw [if_neg hno] | (rw [if_pos ⟨hr, hm⟩]; first | exact ⟨_, _, _, _, _, rfl, k, Bl hfo3_2 i⟩ | exact ⟨_, _, _, _, _, rfl, l, tW hfo3_2 j i⟩ | exact ⟨_, _, _, _, _, rfl, e, BG hfo3_2 j⟩)
 refine Zr <| Zv (eD rfl rfl) <| Zb rfl <| cT <| ZQ rfl (fun i => ?_) fun i => ?_
 have O := Below.slT hB hon
 have P := Below.slT hB hmay
 refine Zr <| Zw (.func (.func 20) #[] #[.pointer (some ⟨m, 0, none⟩), .pointer (some ⟨p, 0, none⟩)]) rfl <| Zf rfl qA <| Zl rfl dC d rfl ?_
 refine qI (dd := some 49) rfl rfl rfl (ka (q := 20) (first := #[]) (cap := #[.pointer (some ⟨m, 0, none⟩), .pointer (some ⟨p, 0, none⟩)]) (vs := #[.int .i64 _, .pointer (some ⟨m, 0, none⟩), .pointer (some ⟨p, 0, none⟩)]) rfl Ih (by simp only [List.map_toArray, List.map_cons, List.map_nil, List.append_toArray, List.nil_append, List.cons_append]; rfl)) (mC S _ _ _ _ _ _ _ O P hr b f) (fun aX aY r aw => ?_)
 have ax := (Below.size hB)
 replace hB := Ze hB r
 replace b := r.at b
 replace d := r.at d
 replace a := r.at a
 replace e := r.ow e
 replace g := r.at g
 replace f := r.at f
 obtain ⟨x9_3, rfl, k⟩ := aw
 replace k := dh.mono k ax
 refine Zv (dK rfl) <| Zv (dM rfl) <| Zy (dg rfl rfl fp rfl a rfl (by exact oG (dh.one k)) fun aZ s ay => ?_)
 replace hB := Zg hB s o
 replace b := At.grownAt b a s Dd
 replace d := At.grownAt d a s Dd
 replace e := dh.grownAt e a s Dd
 replace g := At.grownNe g (Ne.symm F) s
 replace f := At.grownAt f a s Dd
 replace k := dh.grownAt k a s Dd
 replace a := ay
 refine Zw (.int .i64 0) rfl <| cT <| Zt <| fx rfl fp a rfl (v1 := .int .i64 0) rfl ⟨hB, ?_⟩
 first | rw [if_neg hno] | (rw [if_pos ⟨hr, hm⟩]; first | exact ⟨_, _, _, _, _, rfl, k, Bl hfo3_2 i⟩ | exact ⟨_, _, _, _, _, rfl, l, tW hfo3_2 j i⟩ | exact ⟨_, _, _, _, _, rfl, e, BG hfo3_2 j⟩)
 refine c9 <| au _ _ ?_
 have O := Below.slT hB hon
 have P := Below.slT hB hmay
 refine Zr <| Zw (.func (.func 20) #[] #[.pointer (some ⟨m, 0, none⟩), .pointer (some ⟨p, 0, none⟩)]) rfl ?_
 refine qI (dd := some 53) rfl rfl rfl (ka (q := 20) (first := #[]) (cap := #[.pointer (some ⟨m, 0, none⟩), .pointer (some ⟨p, 0, none⟩)]) (vs := #[.int .i64 0, .pointer (some ⟨m, 0, none⟩), .pointer (some ⟨p, 0, none⟩)]) rfl Ih (by simp only [List.map_toArray, List.map_cons, List.map_nil, List.append_toArray, List.nil_append, List.cons_append]; rfl)) (mC S _ _ _ _ _ _ _ O P hr b f) (fun a0 a1 t az => ?_)
 have aA := (Below.size hB)
 replace hB := Ze hB t
 replace b := t.at b
 replace d := t.at d
 replace a := t.at a
 replace e := t.ow e
 replace g := t.at g
 replace f := t.at f
 obtain ⟨x10_1, rfl, l⟩ := az
 replace l := dh.mono l aA
 refine Zv (dK rfl) <| Zv (dM rfl) <| Zy (dg rfl rfl fp rfl a rfl (by exact oG (dh.one l)) fun a2 u aB => ?_)
 replace hB := Zg hB u o
 replace b := At.grownAt b a u Dd
 replace d := At.grownAt d a u Dd
 replace e := dh.grownAt e a u Dd
 replace g := At.grownNe g (Ne.symm F) u
 replace f := At.grownAt f a u Dd
 replace l := dh.grownAt l a u Dd
 replace a := aB
 refine Zw (.int .i64 0) rfl <| cT <| Zt <| fx rfl fp a rfl (v1 := .int .i64 0) rfl ⟨hB, ?_⟩
 first | rw [if_neg hno] | (rw [if_pos ⟨hr, hm⟩]; first | exact ⟨_, _, _, _, _, rfl, k, Bl hfo3_2 i⟩ | exact ⟨_, _, _, _, _, rfl, l, tW hfo3_2 j i⟩ | exact ⟨_, _, _, _, _, rfl, e, BG hfo3_2 j⟩)
theorem wO (S : Sp) (onV mayV : Value) (w : World) (hon : dO fQ 4 w onV S.on) (hmay : dO fQ 4 w mayV S.may) :
    Fn Tryz.prog 16 #[.agg #[.int .i64 S.n, onV, mayV]] w fun v w' => v = .tuple #[.agg #[.int .i64 (if dL S = true then 20000 else 0), .int .i64 (if dL S = true then 1000000 else 0)], .int .i64 (if dL S = true then 0 else 1)] := by
 refine dr (n := 9) Tryz.func16 rfl rfl (Nat.le_of_ble_eq_true rfl) ?_
 have hB : Below w.heap.size w w := Below.refl _ _
 refine Zr <| Zy (dW (c := #[_, _, _]) rfl rfl fun r W3 f l b => ?_)
 have s := ZO f hB
 clear f
 replace hB := Ze hB l
 refine Zy (dw z9 rfl fun t W6 g h a => ?_)
 have i := ZO g hB
 clear g
 replace hB := Ze hB h
 replace b := h.at b
 refine Zw (.int .i64 0) rfl <| cT <| cZ fun K9 m => Zr <| Zv (db rfl eJ rfl b) <| ZC (vs := [.agg #[_, _, _]]) pQ (im S _ _  _ (Below.slT hB hon) (Below.slT hB hmay) ) rfl fun u x d o => ?_
 replace hB := Ze hB d
 replace b := d.at b
 replace a := d.at a
 obtain rfl := o
 refine Zv (fG rfl) <| cT <| ZQ rfl (fun e => ?_) fun e => ?_
 refine Zr <| Zv (t9 ) <| Zy (dg rfl rfl o4 rfl a rfl rfl fun y j p => ?_)
 replace hB := Zg hB j i
 replace b := At.grownAt b a j Dd
 replace a := p
 refine Zw (.int .i64 1) rfl <| cT <| Zt <| fx rfl o4 a rfl (v1 := .int .i64 1) rfl ⟨hB, ?_⟩
 rw [iI e]; rfl
 refine c9 <| m _ _ <| Zr <| Zv (qp (h0 := rfl) (k0 := rfl) (h1 := rfl) (k1 := rfl) (c0_0 := .int .i64 20000) (c1_0 := .int .i64 1000000)) <| Zy (dg rfl rfl o4 rfl a rfl rfl fun z k q => ?_)
 replace hB := Zg hB k i
 replace b := At.grownAt b a k Dd
 replace a := q
 refine Zw (.int .i64 0) rfl <| cT <| Zt <| fx rfl o4 a rfl (v1 := .int .i64 0) rfl ⟨hB, ?_⟩
 rw [ig e]; rfl
end
section
open Go Go.RowKit
section
variable {S : Sp}
theorem F5 {R : Nat} {e : Int} (h : Lb R S e) (hb : (2 ^ S.may.length - 1) * bO S < R) : e = 0 := by
 obtain ⟨ns', id, h1, _, _⟩ := h
 obtain ⟨c, hc, s⟩ := h1.1.st
 exact (s.ok (by rw [List.length_nil]; omega)).1
theorem RY : ∀ n m : Nat, n ≤ 3 → m ≤ 2 → (2 ^ m - 1) * (2 ^ m * (tC n + 2 * n * 3 ^ n) + 24 + rn (16 + m) * 3 ^ n + (16 + m) * 3 ^ n) < 20000 := by
 intro n m hn hm
 have hn' : n = 0 ∨ n = 1 ∨ n = 2 ∨ n = 3 := by omega
 have hm' : m = 0 ∨ m = 1 ∨ m = 2 := by omega
 rcases hn' with rfl | rfl | rfl | rfl <;> rcases hm' with rfl | rfl | rfl <;> decide +kernel
theorem Kc (hn : S.n ≤ 3) (hm : S.may.length ≤ 2) : (2 ^ S.may.length - 1) * bO S < 20000 := RY (nN S) S.may.length (by unfold nN; omega) hm
theorem IQ (hr : dL S = true) (hne : ∃ r, r ∈ eV S) {e : Int} (h : Lb 0 S e) : ¬ e = 0 := fun he => by
 obtain ⟨ns', id, h1, h2, _⟩ := h
 obtain ⟨r, hr2⟩ := hne
 have hn : ns' = [] := List.eq_nil_of_length_eq_zero (by omega)
 have hM := h1.1.m he
 have hv := h1.1.v
 have hx : G0 S (2 ^ S.may.length) (A6 r) := (Cg hr).2 ⟨r, hr2, rfl⟩
 rw [← hM] at hx
 subst hn
 obtain ⟨o, o1, o2, y, _, e2⟩ := (Cg hr).2 ⟨r, hr2, rfl⟩
 rw [List.length_nil] at hv
 have h01 : id = 0 ∨ id = 1 := by omega
 rcases h01 with rfl | rfl
 ·exact Hq _ _ hx
 ·have hx' : A6 r ∈ dS [] 1 := hx
  rw [mQ] at hx'
  have := List.mem_singleton.1 hx'
  omega
theorem Fj (hl : (eV S).length ≤ 4000) {T : Nat} (h : N3 S T) : T + 1 < 2 ^ (eV S).length := by
 obtain ⟨L, ks, h1, h2⟩ := h
 have h3 := sq h1.sub
 have h4 := QU (j2 (S := S) hl)
 exact Nat.lt_of_lt_of_le h2 (Nat.pow_le_pow_right (by decide) (Nat.le_trans h3 h4))
end
def KQ : Sp := ⟨2, [14], [14]⟩
theorem qf : dL KQ = true := by decide +kernel
theorem v6 : (eV KQ).length = 2 := by decide +kernel
theorem Mu : (yx KQ (lh KQ)).length = 2 := by decide +kernel
theorem Oy : jy KQ (eV KQ) = true := Fw qf
theorem ID : jy KQ [] = false ∧ jy KQ [(eV KQ).getD 0 ⟨⟨0, 0⟩, 0⟩] = false ∧ jy KQ [(eV KQ).getD 1 ⟨⟨0, 0⟩, 0⟩] = false := by decide +kernel
theorem PQ {Rr : List Rw} (h : CK KQ Rr) : Rr.length = 2 := by
 have h1 := h.min _ Oy
 rw [v6] at h1
 have hc := h.cov
 have hs := h.sub
 match Rr, h1, hc, hs with
 | [], _, hc, _ => rw [ID.1] at hc; cases hc
 | [r], _, hc, hs =>
  have hm : r ∈ eV KQ := hs.subset (List.mem_singleton.2 rfl)
  obtain ⟨j, hj, rfl⟩ := fh (d := (⟨⟨0, 0⟩, 0⟩ : Rw)) hm
  rw [v6] at hj
  have : j = 0 ∨ j = 1 := by omega
  rcases this with rfl | rfl
  ·rw [ID.2.1] at hc; cases hc
  ·rw [ID.2.2] at hc; cases hc
 | [_, _], _, _, _ => rfl
 | _ :: _ :: _ :: _, h1, _, _ => simp only [List.length_cons] at h1; omega
theorem RH {how why sp : Int} {Rr : List Rw} (h : Pk 20000 1000000 KQ how why sp Rr) : how = 1 ∧ why = 0 ∧ Rr.length = 2 := by
 rcases h with ⟨h1, h2, _, _, _, h3⟩ | ⟨_, _, ⟨_, _, h⟩ | ⟨_, _, _, h⟩⟩
 ·exact ⟨h1, h2, PQ h3⟩
 ·exact absurd (F5 h (Kc (by decide) (by decide))) (by decide)
 ·have := Fj (by rw [v6]; decide) h
  rw [v6] at this
  omega
theorem R8 {how why sp : Int} {Rr : List Rw} (h : Pk 0 0 KQ how why sp Rr) : how = 2 ∧ why = 5 ∧ Rr.length = 2 := by
 have hne : ∃ r, r ∈ eV KQ := ⟨_, dU (d := (⟨⟨0, 0⟩, 0⟩ : Rw)) (i := 0) (by rw [v6]; decide)⟩
 rcases h with ⟨_, _, _, _, h, _⟩ | ⟨h1, h2, ⟨h3, _, _⟩ | ⟨_, _, h, _⟩⟩
 ·exact absurd rfl (IQ qf hne h)
 ·exact ⟨h1, h3, by rw [h2]; exact Mu⟩
 ·exact absurd rfl (IQ qf hne h)
section
variable {S : Sp} {b0 b1 : Int}
end
end
section
open Go Go.RowKit
theorem JL : ∀ n : Nat, n < 4 → ∀ s : Nat, s < 2 ^ 2 ^ n → (eE s (n : Int)).length ≤ 6 := by decide +kernel
section
variable {S : Sp}
theorem GD (o : Nat) : f4 S o < 2 ^ 2 ^ S.n.toNat := Nat.lt_pow_two_of_testBit _ fun i hi => by
 cases h : (f4 S o).testBit i with
 | false => rfl
 | true => have := ((iw _).1 h).1; omega
theorem Ma (h0 : 0 ≤ S.n) (h3 : S.n ≤ 3) (o : Nat) : (yU S o).length ≤ 6 := by
 have h := JL S.n.toNat (by omega) _ (GD (S := S) o)
 rw [Int.toNat_of_nonneg h0] at h
 exact Nat.le_trans (oR S o _) h
theorem F0 (h0 : 0 ≤ S.n) (h3 : S.n ≤ 3) : ∀ o, (jH S (o + 1)).length ≤ 6 * o
 | 0 => by simp [jH]
 | o + 1 => by
  have h1 := F0 h0 h3 o
  have h2 := Ma h0 h3 (o + 1)
  rw [← xn (by omega), List.length_append]
  omega
theorem Ng (hr : dL S = true) (h3 : S.n ≤ 3) (h2 : S.may.length ≤ 2) : (eV S).length ≤ 18 := by
 obtain ⟨h0, _⟩ := dX.1 hr
 have hp : 2 ^ S.may.length ≤ 2 ^ 2 := Nat.pow_le_pow_right (by decide) h2
 have hp0 := Nat.two_pow_pos S.may.length
 obtain ⟨q, hq⟩ : ∃ q, 2 ^ S.may.length = q + 1 := ⟨2 ^ S.may.length - 1, by omega⟩
 have h := F0 h0 h3 q
 rw [← hq] at h
 exact Nat.le_trans h (by omega)
theorem I8 (hr : dL S = true) (h3 : S.n ≤ 3) (h2 : S.may.length ≤ 2) {how why sp : Int} {Rr : List Rw} (h : Pk 20000 1000000 S how why sp Rr) : how = 1 ∧ why = 0 ∧ 0 ≤ sp ∧ sp ≤ 1000000 ∧ CK S Rr := by
 rcases h with ⟨h1, h2, h3, h4, _, h5⟩ | ⟨_, _, ⟨_, _, h⟩ | ⟨_, _, _, h⟩⟩
 ·exact ⟨h1, h2, h3, h4, h5⟩
 ·exact absurd (F5 h (Kc h3 h2)) (by decide)
 ·have hl := Ng hr h3 h2
  have := Fj (by omega) h
  have hp : 2 ^ (eV S).length ≤ 2 ^ 18 := Nat.pow_le_pow_right (by decide) hl
  omega
end
def ER (S : Sp) (l : List Rw) : Nat → Nat → List Rw → Bool
 | 0, _, ch => jy S ch
 | m + 1, frm, ch => (List.range l.length).any fun q => decide (frm ≤ q) && ER S l m (q + 1) (ch ++ [l.getD q ⟨⟨0, 0⟩, 0⟩])
section
variable {S : Sp} {l : List Rw}
theorem jU {m frm : Nat} {ch : List Rw} : ER S l (m + 1) frm ch = true ↔ ∃ q, q < l.length ∧ frm ≤ q ∧ ER S l m (q + 1) (ch ++ [l.getD q ⟨⟨0, 0⟩, 0⟩]) = true := by
 rw [ER, List.any_eq_true]
 constructor
 ·rintro ⟨q, h1, h2⟩
  rw [Bool.and_eq_true, decide_eq_true_eq] at h2
  exact ⟨q, List.mem_range.1 h1, h2⟩
 ·rintro ⟨q, h1, h2⟩
  exact ⟨q, List.mem_range.2 h1, by rw [Bool.and_eq_true, decide_eq_true_eq]; exact h2⟩
theorem FH : ∀ m frm ch, ER S l m frm ch = true → ∃ Z : List Rw, Z.length = m ∧ jy S (ch ++ Z) = true
 | 0, _, ch, h => ⟨[], rfl, by rw [List.append_nil]; exact h⟩
 | m + 1, frm, ch, h => by
  obtain ⟨q, _, _, h3⟩ := jU.1 h
  obtain ⟨Z, z1, z2⟩ := FH m _ _ h3
  exact ⟨l.getD q ⟨⟨0, 0⟩, 0⟩ :: Z, by rw [List.length_cons, z1], by rw [List.append_assoc] at z2; exact z2⟩
theorem Cr {z : Rw} {Z : List Rw} : ∀ d frm, l.length - frm = d → (z :: Z).Sublist (l.drop frm) → ∃ q, q < l.length ∧ frm ≤ q ∧ l.getD q ⟨⟨0, 0⟩, 0⟩ = z ∧ Z.Sublist (l.drop (q + 1))
 | 0, frm, hd, h => by
  rw [List.drop_of_length_le (by omega)] at h
  cases h
 | d + 1, frm, hd, h => by
  have hlt : frm < l.length := by omega
  have e : l.drop frm = l.getD frm ⟨⟨0, 0⟩, 0⟩ :: l.drop (frm + 1) := by
   rw [List.getD_eq_getElem?_getD, List.getElem?_eq_getElem hlt]
   exact List.drop_eq_getElem_cons hlt
  rw [e] at h
  rcases List.sublist_cons_iff.1 h with k | ⟨r, hr, k⟩
  ·obtain ⟨q, q1, q2, q3⟩ := Cr d (frm + 1) (by omega) k
   exact ⟨q, q1, by omega, q3⟩
  ·obtain ⟨r1, r2⟩ := List.cons.inj hr
   exact ⟨frm, hlt, Nat.le_refl _, r1.symm, r2 ▸ k⟩
theorem Ac : ∀ (Z : List Rw) (frm : Nat) (ch : List Rw), Z.Sublist (l.drop frm) → jy S (ch ++ Z) = true → ER S l Z.length frm ch = true
 | [], _, ch, _, h => by rw [List.append_nil] at h; exact h
 | z :: Z, frm, ch, hs, h => by
  obtain ⟨q, q1, q2, q3, q4⟩ := Cr _ frm rfl hs
  refine jU.2 ⟨q, q1, q2, Ac Z (q + 1) _ q4 ?_⟩
  rw [q3, List.append_assoc]
  exact h
theorem yL (l : List Rw) : ∀ k, k ≤ l.length → (ph l k).Sublist (l.take k)
 | 0, _ => by simp [ph]
 | k + 1, hk => by
  have ih := yL l k (by omega)
  rw [ph, ← tB (by omega : k < l.length)]
  split
  ·exact ih.append (List.Sublist.refl _)
  ·exact ih.trans (List.sublist_append_left _ _)
theorem uk (hr : dL S = true) : (eV S).Sublist (AJ S) := by
 have h := yL (AJ S) _ (Nat.le_refl _)
 rwa [List.take_length, L7 hr] at h
theorem Qm {R : List Rw} {k : Nat} (h : CK S R) (hr : dL S = true) (h1 : ER S (AJ S) k 0 [] = true) (h2 : ∀ q, q < k → ER S (AJ S) q 0 [] = false) : k = R.length := by
 obtain ⟨Z, z1, z2⟩ := FH _ _ _ h1
 have h3 := h.min _ z2
 rw [List.nil_append, z1] at h3
 rcases Nat.lt_or_ge R.length k with h4 | h4
 ·have h5 := Ac (S := S) (l := AJ S) R 0 [] (by rw [List.drop_zero]; exact h.sub.trans (uk hr)) h.cov
  rw [h2 _ h4] at h5
  cases h5
 ·omega
theorem OI {R : List Rw} {k : Nat} (h : CK S R) (hr : dL S = true) (hk : (AJ S).length < k) (h2 : ∀ q, q < k → ER S (AJ S) q 0 [] = false) : False := by
 have hs := h.sub.trans (uk hr)
 have hl := hs.length_le
 have h5 := Ac (S := S) (l := AJ S) R 0 [] (by rw [List.drop_zero]; exact hs) h.cov
 rw [h2 _ (by omega)] at h5
 cases h5
theorem Jw (h2 : S.n ≤ 2) (o : Nat) : ∀ k, (AQ S o k).length ≤ k * 4
 | 0 => by simp [AQ]
 | k + 1 => by
  have h1 := Jw h2 o k
  have h3 := uN S o k (2 ^ S.n.toNat)
  have h4 : 2 ^ S.n.toNat ≤ 2 ^ 2 := Nat.pow_le_pow_right (by decide) (by omega)
  rw [AQ, List.length_append]
  omega
theorem J4 (h2 : S.n ≤ 2) : ∀ o, (x5 S o).length ≤ o * 16
 | 0 => by simp [x5]
 | o + 1 => by
  have h1 := J4 h2 o
  have h3 := Jw h2 o (2 ^ S.n.toNat)
  have h4 : 2 ^ S.n.toNat ≤ 2 ^ 2 := Nat.pow_le_pow_right (by decide) (by omega)
  rw [x5]
  split
  ·simp
  ·rw [List.length_append]; omega
theorem PM (h2 : S.n ≤ 2) (h3 : S.on.length ≤ 2) : (AJ S).length ≤ 64 := by
 have h1 := J4 h2 (2 ^ S.on.length)
 have h4 : 2 ^ S.on.length ≤ 2 ^ 2 := Nat.pow_le_pow_right (by decide) h3
 show (x5 S _).length ≤ 64
 omega
theorem wg {l : List Rw} (h : gH l) {k : Nat} (hk : k < l.length) {c : List Rw} (hc : gH c) : gH (c ++ [l.getD k ⟨⟨0, 0⟩, 0⟩]) := hc.app fun x hx => by
 rw [List.mem_singleton.1 hx]
 exact h.get hk
end
section
variable {S : Sp} {b0 b1 how why sp : Int} {R T : Nat} {Rr : List Rw}
end
section
variable {l R : List Rw} {i : Nat}
end
section
variable {P : Program} {f : Nat → Value} {w : World} {d : Option Nat} {ty : TypeId} {ps : String} {af : Array Edge} {g : Option (Nat × Bool)} {x y : Operand} {t t2 : TypeId}
theorem Hv {m n : Nat} (hx : dQ f x = .int .i64 (m : Int)) (hy : dQ f y = .int .i64 1) (hm : m = n + 1) (hn : n < 9223372036854775807) :
  (execOp (dQ f) ⟨d, .binOp .sub t x y t2, ty, ps, af, g⟩).run P w = .ok (.value (.int .i64 (n : Int))) w := by
 rw [kD hx hy (by omega) (by omega), show (m : Int) - 1 = (n : Int) by omega]
end
end
section
open Go Go.RowKit
theorem Ee : dD Tryz.prog 62 = true := by kernel_rfl
theorem OQ : dD Tryz.prog 63 = true := by kernel_rfl
theorem Qo : dD Tryz.prog 15 = true := by kernel_rfl
theorem N9 : dD Tryz.prog 10 = true := by kernel_rfl
theorem sM {f : Nat → Value} {w : World} {d : Option Nat} {ty : TypeId} {ps : String} {af : Array Edge} {g : Option (Nat × Bool)} {x0 : Operand} {c0_0 : Value} (h0 : dQ f x0 = c0_0) (k0 : c0_0.cells = #[c0_0]) :
    (execOp (dQ f) ⟨d, .build 49 #[(0, x0)], ty, ps, af, g⟩).run Tryz.prog w = .ok (.value (.agg #[c0_0, .int .u64 0, .int .u64 0, .int .u64 0])) w := by
  obtain ⟨i0, hi0, hz0⟩ := Option.bind_eq_some_iff.1 (show (Tryz.prog.info? 49).bind (·.zero) = _ from eR)
  obtain ⟨j47, hj47, hs47⟩ := Option.map_eq_some_iff.1 yX
  simp [execOp, h0, k0, Instr.build, zeroValue, typeInfo, sizeOf, hi0, hz0, run_underlying Tryz.underlying49, Instr.fill, ff, hj47, hs47]
theorem Kf : eQ Tryz.prog 24 = some (.agg #[.int .i64 0, .slice none 0 0, .slice none 0 0]) := by kernel_rfl
theorem G2 : (Tryz.prog.info? 22).map (·.size) = some 1 := by kernel_rfl
theorem tO {f : Nat → Value} {w : World} {d : Option Nat} {ty : TypeId} {ps : String} {af : Array Edge} {g : Option (Nat × Bool)} {x0 x1 x2 : Operand} {c0_0 c1_0 c2_0 : Value} (h0 : dQ f x0 = c0_0) (k0 : c0_0.cells = #[c0_0]) (h1 : dQ f x1 = c1_0) (k1 : c1_0.cells = #[c1_0]) (h2 : dQ f x2 = c2_0) (k2 : c2_0.cells = #[c2_0]) :
    (execOp (dQ f) ⟨d, .build 24 #[(0, x0), (1, x1), (2, x2)], ty, ps, af, g⟩).run Tryz.prog w = .ok (.value (.agg #[c0_0, c1_0, c2_0])) w := by
  obtain ⟨i0, hi0, hz0⟩ := Option.bind_eq_some_iff.1 (show (Tryz.prog.info? 24).bind (·.zero) = _ from Kf)
  obtain ⟨j3, hj3, hs3⟩ := Option.map_eq_some_iff.1 iq
  obtain ⟨j22, hj22, hs22⟩ := Option.map_eq_some_iff.1 G2
  simp [execOp, h0, k0, h1, k1, h2, k2, Instr.build, zeroValue, typeInfo, sizeOf, hi0, hz0, run_underlying Tryz.underlying24, Instr.fill, ff, hj3, hs3, hj22, hs22]
theorem J7 : dD Tryz.prog 9 = true := by kernel_rfl
theorem tu : fK Tryz.prog 32 1 = some 1 := by kernel_rfl
theorem yY : fK Tryz.prog 32 2 = some 2 := by kernel_rfl
theorem Bk : dD Tryz.prog 8 = true := by kernel_rfl
theorem zj : dD Tryz.prog 40 = true := by kernel_rfl
theorem PF : dD Tryz.prog 39 = true := by kernel_rfl
theorem Oo : dD Tryz.prog 16 = true := by kernel_rfl
theorem Qa : dD Tryz.prog 17 = true := by kernel_rfl
theorem iW (n : Int) (w : World) (h0 : 0 ≤ n) (hn : n ≤ 61) :
    Fn Tryz.prog 62 #[.int .i64 n] w fun v w' => v = .int .i64 ((2 ^ n.toNat : Nat) : Int) := by
 refine dr (n := 13) Tryz.func62 rfl rfl (Nat.le_of_ble_eq_true rfl) ?_
 have hB : Below w.heap.size w w := Below.refl _ _
 refine Zr <| Zw (.int .i64 0) rfl <| cT <| Zr <| Zw (.int .i64 1) rfl <| cT <| cZ fun K5 a => Zr <| Zw (.int .i64 0) rfl <| cT <| c7 ?_
 refine dz (σ := (Nat)) [3, 4, 5, 6, 7, 8, 9, 10, 11] (fun k => [(4, .int .i64 (k : Int)), (3, .int .i64 ((2 ^ k : Nat) : Int))]) (fun k W => (Below w.heap.size w W) ∧ (k ≤ n.toNat) ∧ (True)) (fun k => n.toNat - k) (0) ⟨rfl, rfl, trivial⟩ ⟨hB, (Nat.zero_le _), trivial⟩ ?_
 clear hB
 rintro k f W9 ⟨hB, hk, _⟩ g b
 refine cZ fun h c => Zr <| Zi rfl <| Zi rfl <| Zv (dN rfl rfl) <| cT <| ZQ rfl (fun d => ?_) fun d => ?_
 refine c9 <| c _ _ <| cZ fun i e => c7 ?_
 have h63 := Nat.two_pow_pos k
 have h62 : 2 ^ k ≤ 2 ^ 61 := Nat.pow_le_pow_right (by decide) (by omega)
 refine cY <| Zi rfl <| Zv (DX rfl rfl Om Om) <| Zi rfl <| cT <| e _ _ <| cY <| Zi rfl <| Zv (dp rfl rfl Om Om) <| Zi rfl <| cT ?_
 exact b _ _ (k + 1) Za ⟨rfl, congrArg (Value.int .i64) (II k), trivial⟩ ⟨hB, Om, trivial⟩ Zo
 refine dt <| a _ _ <| Zr <| Zi rfl <| Zi rfl <| cT <| Zt <| dE (v := .int .i64 _) rfl ⟨hB, ?_⟩
 obtain rfl : k = n.toNat := by omega
 rfl
theorem pu (S : Sp) (onV mayV : Value) (w : World) (hon : dO fQ 4 w onV S.on) (hmay : dO fQ 4 w mayV S.may) (hr : dL S = true) :
    Fn Tryz.prog 39 #[.agg #[.int .i64 S.n, onV, mayV]] w fun v w' => dh fI 3 42 w' w.heap.size v (AJ S) := by
 refine dr (n := 46) Tryz.func39 rfl rfl (Nat.le_of_ble_eq_true rfl) ?_
 have hB : Below w.heap.size w w := Below.refl _ _
 obtain ⟨h0, h8, h1, h4, h5, _⟩ := dX.1 hr
 have ae := DR h4
 have af := Nat.two_pow_pos S.on.length
 have H := eT h8
 refine Zr <| Zy (dW (c := #[_, _, _]) rfl rfl fun p W3 B I a => ?_)
 have ag := ZO B hB
 clear B
 replace hB := Ze hB I
 refine Zw (.slice none 0 0) rfl <| cT <| Zr <| Zw (.slice none 0 0) rfl <| cT <| cZ fun K8 J => Zr <| Zw (.int .i64 1) rfl <| cT <| c7 ?_
 refine dz (σ := (Nat) × (Value)) [3, 4, 5, 6, 7, 8, 9, 10, 11, 12, 13, 14, 15, 16, 17, 18, 19, 20, 21, 22, 23, 24, 25, 26, 27, 28, 29, 30, 31, 32, 33, 34, 35, 36, 37, 38, 39, 40, 41, 42, 43, 44] (fun (o, v0) => [(4, .int .i64 (o : Int)), (3, v0)]) (fun sg W => match sg with | (o, v0) => (Below w.heap.size w W) ∧ (At W p _ 24) ∧ (dh fI 3 42 W w.heap.size v0 (x5 S o)) ∧ (1 ≤ o ∧ o ≤ 2 ^ S.on.length) ∧ (True)) (fun (o, v0) => 2 ^ S.on.length - o) ((1, .slice none 0 0)) ⟨rfl, rfl, trivial⟩ ⟨hB, a, (by rw [show x5 S 1 = [] from rfl]; exact dh.nil), Om, trivial⟩ ?_
 clear hB a
 rintro ⟨o, v0⟩ ah ai ⟨hB, a, ho, hoo, _⟩ aj K
 refine cZ fun ak L => Zr <| Zi rfl <| Zf rfl fE <| ZL onV rfl eB a rfl <| Zv (dB (v := onV) rfl (Below.slT hB hon) d5) <| ZC Ee (iW _ _ (by first | assumption | omega) (by first | assumption | omega)) rfl fun al ao q M => ?_
 replace hB := Ze hB q
 replace a := q.at a
 replace ho := q.ow ho
 obtain rfl := M
 simp only [Int.toNat_natCast]
 refine Zv (dN rfl rfl) <| cT <| ZQ rfl (fun N => ?_) fun N => ?_
 refine c9 <| L _ _ <| cZ fun ap O => c7 <| Zr <| Zw (.int .i64 0) rfl <| cT <| c7 ?_
 refine dz (σ := (Nat) × (Value)) [3, 5, 6, 7, 16, 17, 18, 19, 20, 21, 22, 23, 24, 25, 26, 27, 28, 29, 30, 31, 32, 33, 34, 35, 36, 37, 38, 39, 40, 41, 42, 43, 44] (fun (m, v1) => [(5, .int .i64 (m : Int)), (3, v1)]) (fun sg W => match sg with | (m, v1) => (Below w.heap.size w W) ∧ (At W p _ 24) ∧ (dh fI 3 42 W w.heap.size v1 (x5 S o ++ AQ S o m)) ∧ (m ≤ 2 ^ S.n.toNat) ∧ (True)) (fun (m, v1) => 2 ^ S.n.toNat - m) ((0, v0)) ⟨rfl, rfl, trivial⟩ ⟨hB, a, (by rw [AQ, List.append_nil]; exact ho), (Nat.zero_le _), trivial⟩ ?_
 clear hB a ho
 rintro ⟨m, v1⟩ aq ar ⟨hB, a, g, hmm, _⟩ au P
 refine cZ fun av Q => Zr <| Zi rfl <| Zf rfl fD <| Zl rfl dC a rfl <| ZC Ee (iW _ _ (by first | assumption | omega) (by first | assumption | omega)) rfl fun aw ax r R => ?_
 replace hB := Ze hB r
 replace a := r.at a
 replace g := r.ow g
 obtain rfl := R
 refine Zv (dN rfl rfl) <| cT <| ZQ rfl (fun T => ?_) fun T => ?_
 refine c9 <| Q _ _ <| cZ fun ay U => c7 <| Zr <| Zw (.int .i64 0) rfl <| cT <| c7 ?_
 refine dz (σ := (Nat) × (Value)) [3, 6, 7, 23, 24, 25, 26, 27, 28, 29, 30, 31, 32, 33, 34, 35, 36, 37, 38, 39, 40, 41, 42, 43, 44] (fun (u, v2) => [(6, .int .i64 (u : Int)), (3, v2)]) (fun sg W => match sg with | (u, v2) => (Below w.heap.size w W) ∧ (At W p _ 24) ∧ (dh fI 3 42 W w.heap.size v2 ((x5 S o ++ AQ S o m) ++ AM S o m u)) ∧ (u ≤ 2 ^ S.n.toNat) ∧ (True)) (fun (u, v2) => 2 ^ S.n.toNat - u) ((0, v1)) ⟨rfl, rfl, trivial⟩ ⟨hB, a, (by rw [AM, List.append_nil]; exact g), (Nat.zero_le _), trivial⟩ ?_
 clear hB a g
 rintro ⟨u, v2⟩ az aA ⟨hB, a, d, huu, _⟩ aB C
 refine cZ fun aC V => Zr <| Zi rfl <| Zf rfl fD <| Zl rfl dC a rfl <| ZC Ee (iW _ _ (by first | assumption | omega) (by first | assumption | omega)) rfl fun aD aE s X => ?_
 replace hB := Ze hB s
 replace a := s.at a
 replace d := s.ow d
 obtain rfl := X
 refine Zv (dN rfl rfl) <| cT <| ZQ rfl (fun Y => ?_) fun Y => ?_
 refine c9 <| V _ _ <| cZ fun aF D => c7 <| Zr <| Zi rfl <| Zv (iB rfl Tryz.underlying3 Tryz.underlying5 (by simp only [d7]; omega)) <| Zi rfl <| Zv (iB rfl Tryz.underlying3 Tryz.underlying5 (by simp only [d7]; omega)) <| Zv (kV (h0 := rfl) (k0 := rfl) (h1 := rfl) (k1 := rfl) (c0_0 := .int .u8 _) (c1_0 := .int .u8 _)) <| Zi rfl <| Zv (iB rfl Tryz.underlying3 Tryz.underlying5 (by simp only [d7]; omega)) <| Zv (jt (h0 := rfl) (h1 := rfl) (k1 := rfl) (c1_0 := .int .u8 _)) <| Zy (dw kL rfl fun Z aG t y f => ?_)
 have aa := ZO t hB
 have E := dh.neB (b := Z) d (Nat.le_of_eq t.symm)
 clear t
 replace hB := Ze hB y
 replace a := y.at a
 replace d := y.ow d
 refine Zy (dg rfl rfl eq rfl f rfl rfl fun aH z ab => ?_)
 replace hB := Zg hB z aa
 replace a := At.grownAt a f z Dd
 replace d := dh.grownAtNe d E z
 replace f := ab
 refine cT <| Zr <| Zv (db rfl eJ rfl a) <| Zv (db rfl eq rfl f) <| ZC (vs := [.agg #[_, _, _], .agg #[_, _, _]]) OQ (oy S _ _ m u o _ (Below.slT hB hon) (Below.slT hB hmay) hr Om Om Om) rfl fun aI aJ i ac => ?_
 replace hB := Ze hB i
 replace a := i.at a
 replace d := i.ow d
 replace f := i.at f
 obtain rfl := ac
 refine cT <| ZQ rfl (fun h => ?_) fun h => ?_
 have q1 := E1 h8 o
 have q2 := zM S o m
 have q3 := uN S o m u
 have q4 : m * 2 ^ S.n.toNat ≤ 256 * 256 := Nat.mul_le_mul (by omega) H
 refine cY <| Zw v2 rfl <| Zv (db rfl eq rfl f) <| Zy (eU (u := .agg #[_, _, _]) rfl dR fN rfl Dd Dd fun F aK j k ad => ?_)
 have aL := ZO j hB
 have aM := dh.neB (b := F) d (Nat.le_of_eq j.symm)
 have aN := Zn j f.lt
 clear j
 replace hB := Ze hB k
 replace a := k.at a
 replace d := k.ow d
 replace f := k.at f
 refine Zy (eC (v := v2) (v2 := .slice (some ⟨F, 0, none⟩) 1 1) rfl rfl dR fN Dd d (fm ad rfl) rfl (by have := Below.size hB; omega) (by first | omega | (simp; omega)) (by first | omega | (simp; omega)) fun G aO A l => ?_)
 replace l := dh.snoc (enc := fI) (x := ⟨⟨m, u⟩, o⟩) rfl rfl rfl rfl l
 replace hB := ZG hB A d
 replace a := At.grownOw a d A Dd
 replace f := At.grownOwNe f E A
 clear d
 refine Zw G rfl <| cT <| D _ _ <| cY <| Zi rfl <| Zv (dp rfl rfl Om Om) <| Zi rfl <| cT ?_
 exact C _ _ ((u + 1, G)) Za ⟨rfl, rfl, trivial⟩ ⟨hB, a, (by first | (rw [← NQ h, ← List.append_assoc]; exact l) | (rw [← Ny h]; exact l)), Om, trivial⟩ (by show 2 ^ S.n.toNat - (u + 1) < 2 ^ S.n.toNat - u; omega)
 refine c9 <| D _ _ <| cY <| Zi rfl <| Zv (dp rfl rfl Om Om) <| Zi rfl <| cT ?_
 exact C _ _ ((u + 1, v2)) Za ⟨rfl, rfl, trivial⟩ ⟨hB, a, (by first | (rw [← NQ h, ← List.append_assoc]; exact d) | (rw [← Ny h]; exact d)), Om, trivial⟩ (by show 2 ^ S.n.toNat - (u + 1) < 2 ^ S.n.toNat - u; omega)
 refine dt <| U _ _ <| cY <| Zi rfl <| Zv (dp rfl rfl Om Om) <| Zi rfl <| cT ?_
 exact P _ _ ((m + 1, v2)) Za ⟨rfl, rfl, trivial⟩ ⟨hB, a, (by rw [AQ, ← List.append_assoc]; have e : u = 2 ^ S.n.toNat := Om; subst e; exact d), Om, trivial⟩ (by show 2 ^ S.n.toNat - (m + 1) < 2 ^ S.n.toNat - m; omega)
 refine dt <| O _ _ <| cY <| Zi rfl <| Zv (dp rfl rfl Om Om) <| Zi rfl <| cT ?_
 exact K _ _ ((o + 1, v1)) Za ⟨rfl, rfl, trivial⟩ ⟨hB, a, (by rw [← HL Om]; have e : m = 2 ^ S.n.toNat := Om; subst e; exact g), Om, trivial⟩ (by show 2 ^ S.on.length - (o + 1) < 2 ^ S.on.length - o; omega)
 refine dt <| J _ _ <| Zr <| Zw v0 rfl <| Zw v0 rfl <| cT <| Zt <| dE (v := v0) rfl ⟨hB, ?_⟩
 obtain rfl : o = 2 ^ S.on.length := by omega
 exact ho
theorem oL (S : Sp) (onV mayV : Value) (w : World) (hon : dO fQ 4 w onV S.on) (hmay : dO fQ 4 w mayV S.may) :
    Fn Tryz.prog 15 #[.agg #[.int .i64 S.n, onV, mayV]] w fun v w' => v = .bool (wT S) := by
 refine dr (n := 13) Tryz.func15 rfl rfl (Nat.le_of_ble_eq_true rfl) ?_
 have hB : Below w.heap.size w w := Below.refl _ _
 refine Zr <| Zy (dW (c := #[_, _, _]) rfl rfl fun f W3 b e d => ?_)
 have g := ZO b hB
 clear b
 replace hB := Ze hB e
 refine Zw (.bool false) rfl <| cT <| Zr <| Zf rfl fE <| ZL onV rfl eB d rfl <| Zv (dB (v := onV) rfl (Below.slT hB hon) d5) <| Zv (jp rfl rfl) <| ZX rfl (fun a => ?_) fun a => ?_
 refine Zs <| Zs <| Zs <| Zs <| Zw (.bool true) rfl <| Zw (.bool true) rfl <| cT <| Zt <| dE (v := .bool true) rfl ⟨hB, ?_⟩
 first | exact congrArg Value.bool (EQ a) | exact congrArg Value.bool (Fq a)
 refine Zf rfl fO <| ZL mayV rfl eB d rfl <| Zv (dB (v := mayV) rfl (Below.slT hB hmay) d5) <| Zv (jp rfl rfl) <| Zb rfl <| Zb rfl <| cT <| Zt <| dE (v := .bool _) rfl ⟨hB, ?_⟩
 first | exact congrArg Value.bool (EQ a) | exact congrArg Value.bool (Fq a)
set_option maxRecDepth 10000 in
theorem gm  (w : World) :
    Fn Tryz.prog 8 #[] w fun v w' => v = .bool true := by
 refine dr (n := 61) Tryz.func8 rfl rfl (Nat.le_of_ble_eq_true rfl) ?_
 have hB : Below w.heap.size w w := Below.refl _ _
 refine Zr <| Zw (.bool false) rfl <| cT <| Zr <| Zv (v := eP 14) (sM (h0 := rfl) (k0 := rfl) (c0_0 := .int .u64 14)) <| Zy (eU (u := .agg #[_, _, _, _]) rfl d5 vk rfl Dd Dd fun K W5 E L o => ?_)
 have M := ZO E hB
 clear E
 replace hB := Ze hB L
 refine Zv (v := eP 14) (sM (h0 := rfl) (k0 := rfl) (c0_0 := .int .u64 14)) <| Zy (eU (u := .agg #[_, _, _, _]) rfl d5 vk rfl Dd Dd fun N W8 q F O => ?_)
 have P := ZO q hB
 have Z := Zn q o.lt
 clear q
 replace hB := Ze hB F
 replace o := F.at o
 have b := iE (enc := fQ) (a := 14) o rfl rfl M
 have c := iE (enc := fQ) (a := 14) O rfl rfl P
 refine Zv (tO (h0 := rfl) (k0 := rfl) (h1 := rfl) (k1 := rfl) (h2 := rfl) (k2 := rfl) (c0_0 := .int .i64 2) (c1_0 := .slice (some ⟨K, 0, none⟩) 1 1) (c2_0 := .slice (some ⟨N, 0, none⟩) 1 1)) <| Zy (dw Kf rfl fun aa ab G r d => ?_)
 have Q := ZO G hB
 clear G
 replace hB := Ze hB r
 replace b := r.ow b
 replace c := r.ow c
 refine Zy (dg rfl rfl eJ rfl d rfl rfl fun ac s R => ?_)
 replace hB := Zg hB s Q
 replace b := dh.grownAt b d s Dd
 replace c := dh.grownAt c d s Dd
 replace d := R
 refine cT <| Zr <| Zv (db rfl eJ rfl d) <| Zv (qp (h0 := rfl) (k0 := rfl) (h1 := rfl) (k1 := rfl) (c0_0 := .int .i64 20000) (c1_0 := .int .i64 1000000)) <| ZC (vs := [.agg #[_, _, _], .agg #[_, _]]) J7 (ld KQ _ _ 20000 1000000 _ b.sl c.sl (fun _ => by decide)) rfl fun ad ae p H => ?_
 have S := (Below.size hB)
 replace hB := Ze hB p
 replace b := p.ow b
 replace c := p.ow c
 replace d := p.at d
 rw [if_pos (show dL KQ = true ∧ qR _ _ from ⟨qf, by decide⟩)] at H
 obtain ⟨x2_2, how2_2, why2_2, sp2_2, Rr2_2, rfl, f, hmo2_2⟩ := H
 replace f := dh.mono f S
 obtain ⟨rfl, rfl, hlen2_2⟩ := RH hmo2_2
 refine Zw (.tuple #[.agg #[x2_2, .int .i64 _, .int .i64 _, .int .i64 _], .int .i64 0]) rfl <| Zv (dK rfl) <| Zv (dM rfl) <| Zy (dw m0 rfl fun af ag I l e => ?_)
 have T := ZO I hB
 clear I
 replace hB := Ze hB l
 replace b := l.ow b
 replace c := l.ow c
 replace d := l.at d
 replace f := l.ow f
 refine Zy (dg rfl rfl fp rfl e rfl (by exact oG (dh.one f)) fun ah m U => ?_)
 replace hB := Zg hB m T
 replace b := dh.grownAt b e m Dd
 replace c := dh.grownAt c e m Dd
 replace d := At.grownAt d e m Dd
 replace f := dh.grownAt f e m Dd
 replace e := U
 refine Zw (.int .i64 0) rfl <| cT <| Zr <| Zv (db rfl eJ rfl d) <| Zv (t9 ) <| ZC (vs := [.agg #[_, _, _], .agg #[_, _]]) J7 (ld KQ _ _ 0 0 _ b.sl c.sl (fun _ => by decide)) rfl fun ai aj k J => ?_
 have V := (Below.size hB)
 replace hB := Ze hB k
 replace b := k.ow b
 replace c := k.ow c
 replace d := k.at d
 replace f := k.ow f
 replace e := k.at e
 rw [if_pos (show dL KQ = true ∧ qR _ _ from ⟨qf, by decide⟩)] at J
 obtain ⟨x3_2, how3_2, why3_2, sp3_2, Rr3_2, rfl, h, hmo3_2⟩ := J
 replace h := dh.mono h V
 obtain ⟨rfl, rfl, hlen3_2⟩ := R8 hmo3_2
 refine Zw (.tuple #[.agg #[x3_2, .int .i64 _, .int .i64 _, .int .i64 _], .int .i64 0]) rfl <| Zv (dK rfl) <| Zv (dM rfl) <| Zy (dw m0 rfl fun ak al t i g => ?_)
 have W := ZO t hB
 have X := Zn t e.lt
 clear t
 replace hB := Ze hB i
 replace b := i.ow b
 replace c := i.ow c
 replace d := i.at d
 replace f := i.ow f
 replace e := i.at e
 replace h := i.ow h
 refine Zy (dg rfl rfl fp rfl g rfl (by exact oG (dh.one h)) fun ao j Y => ?_)
 replace hB := Zg hB j W
 replace b := dh.grownAt b g j Dd
 replace c := dh.grownAt c g j Dd
 replace d := At.grownAt d g j Dd
 replace f := dh.grownAt f g j Dd
 replace e := At.grownNe e X j
 replace h := dh.grownAt h g j Dd
 replace g := Y
 refine Zw (.int .i64 0) rfl <| cT <| Zr <| Zf rfl ot <| ZL x2_2 rfl mg e rfl <| Zv (dB (v := x2_2) rfl f.sl dR) <| Zv (eD rfl rfl) <| ZX rfl (fun x => ?_) fun x => ?_
 refine Zf rfl tu <| Zl rfl dC e rfl <| Zv (eD rfl rfl) <| Zb rfl <| ZX rfl (fun y => ?_) fun y => ?_
 refine Zf rfl yY <| Zl rfl j1 e rfl <| Zv (eD rfl rfl) <| Zb rfl <| ZX rfl (fun z => ?_) fun z => ?_
 refine Zw (.int .i64 0) rfl <| Zv (eD rfl rfl) <| Zb rfl <| ZX rfl (fun A => ?_) fun A => ?_
 refine Zf rfl ot <| ZL x3_2 rfl mg g rfl <| Zv (dB (v := x3_2) rfl h.sl dR) <| Zv (eD rfl rfl) <| Zb rfl <| ZX rfl (fun B => ?_) fun B => ?_
 refine Zf rfl tu <| Zl rfl dC g rfl <| Zv (eD rfl rfl) <| Zb rfl <| ZX rfl (fun C => ?_) fun C => ?_
 refine Zf rfl yY <| Zl rfl j1 g rfl <| Zv (eD rfl rfl) <| Zb rfl <| ZX rfl (fun D => ?_) fun D => ?_
 refine Zw (.int .i64 0) rfl <| Zv (eD rfl rfl) <| Zb rfl <| Zb rfl <| cT <| Zt <| dE (v := .bool _) rfl ⟨hB, ?_⟩
 rfl
 first | exact absurd rfl D | exact absurd (by omega) D
 first | exact absurd rfl C | exact absurd (by omega) C
 first | exact absurd rfl B | exact absurd (by omega) B
 first | exact absurd rfl A | exact absurd (by omega) A
 first | exact absurd rfl z | exact absurd (by omega) z
 first | exact absurd rfl y | exact absurd (by omega) y
 first | exact absurd rfl x | exact absurd (by omega) x
theorem kl (S : Sp) (onV mayV : Value) (xa xc : Value) (l ch : List Rw) (frm m : Nat) (w : World) (hon : dO fQ 4 w onV S.on) (hmay : dO fQ 4 w mayV S.may) (hl : dO fI 3 w xa l) (hch : dO fI 3 w xc ch) (hr : dL S = true) (hlb : l.length ≤ 1000) (hlr : gH l) (hcr : gH ch) (hcb : ch.length + m ≤ 1000) (hih : ∀ (mm : Nat), m = mm + 1 → ∀ (onV mayV xa xc : Value) (ch : List Rw) (frm : Nat) (w : World), dO fQ 4 w onV S.on → dO fQ 4 w mayV S.may → dO fI 3 w xa l → dO fI 3 w xc ch → gH ch → ch.length + mm ≤ 1000 → Fn Tryz.prog 40 #[.agg #[.int .i64 S.n, onV, mayV], xa, .int .i64 (frm : Int), xc, .int .i64 (mm : Int)] w fun v w' => v = .bool (ER S l mm frm ch)) :
    Fn Tryz.prog 40 #[.agg #[.int .i64 S.n, onV, mayV], xa, .int .i64 (frm : Int), xc, .int .i64 (m : Int)] w fun v w' => v = .bool (ER S l m frm ch) := by
 refine dr (n := 40) Tryz.func40 rfl rfl (Nat.le_of_ble_eq_true rfl) ?_
 have hB : Below w.heap.size w w := Below.refl _ _
 refine Zr <| Zy (dW (c := #[_, _, _]) rfl rfl fun ao W3 ag ap a => ?_)
 have aN := ZO ag hB
 clear ag
 replace hB := Ze hB ap
 refine Zw (.bool false) rfl <| cT <| cZ fun K6 aq => Zr <| Zi rfl <| Zv (eD rfl rfl) <| cT <| ZQ rfl (fun ar => ?_) fun ar => ?_
 refine Zr <| Zv (db rfl eJ rfl a) <| Zw xc rfl <| ZC (vs := [.agg #[_, _, _], xc]) O0 (oE S _ _ _ ch _ (Below.slT hB hon) (Below.slT hB hmay) (Below.slT hB hch) Om hcr hr) rfl fun aO aP ah au => ?_
 replace hB := Ze hB ah
 replace a := ah.at a
 obtain rfl := au
 refine Zb rfl <| cT <| Zt <| dE (v := .bool _) rfl ⟨hB, ?_⟩
 obtain rfl : m = 0 := by omega
 rfl
 refine c9 <| aq _ _ <| cZ fun aQ av => ?_
 obtain ⟨mm, rfl⟩ : ∃ mm, m = mm + 1 := ⟨m - 1, by omega⟩
 refine Zr <| Zi rfl <| Zi rfl <| cT <| c7 ?_
 refine dz (σ := (Nat)) [10, 11, 18, 19, 20, 21, 22, 23, 24, 25, 26, 27, 28, 29, 30, 31, 32, 33, 34, 35, 36, 37, 38, 39] (fun i => [(11, .int .i64 (i : Int))]) (fun i W => (Below w.heap.size w W) ∧ (At W ao _ 24) ∧ (frm ≤ i) ∧ (∀ q, q < l.length → frm ≤ q → q < i → ¬ ER S l mm (q + 1) (ch ++ [l.getD q ⟨⟨0, 0⟩, 0⟩]) = true) ∧ (True)) (fun i => l.length - i) (frm) ⟨rfl, trivial⟩ ⟨hB, a, (Nat.le_refl _), (fun q h1 h2 h3 => by omega), trivial⟩ ?_
 clear hB a
 rintro i aR aS ⟨hB, a, hi, hq, _⟩ aT T
 refine cZ fun aU aw => Zr <| Zi rfl <| Zw xa rfl <| Zv (dB (v := xa) rfl (Below.slT hB hl) dR) <| Zv (dN rfl rfl) <| cT <| ZQ rfl (fun ax => ?_) fun ax => ?_
 refine c9 <| aw _ _ <| cZ fun aV U => c7 <| Zd d9 fun V ai => ?_
 replace hB := Ze hB ai
 replace a := ai.at a
 have hS := d9.refl V
 refine Tk 0 rfl (fun _ hq => db rfl eJ rfl (hq.at a)) hS <| Tw 1 xa rfl rfl hS <| Ti 2 rfl rfl hS <| Tk 3 rfl (fun _ _ => dp rfl rfl Om Om) hS <| Tw 5 xc rfl rfl hS <| Tw 7 xa rfl rfl hS <| Ti 8 rfl rfl hS <| Tk 9 rfl (fun _ hq => dI (v := xa) rfl (hq.slT (Below.slT hB hl)) rfl dR Om Om) hS <| Tk 10 rfl (fun _ hq => kU rfl eq (dO.cell (hq.slT (Below.slT hB hl)) eg ⟨⟨0, 0⟩, 0⟩ Om Om 0 rfl) (dO.cell (hq.slT (Below.slT hB hl)) eg ⟨⟨0, 0⟩, 0⟩ Om Om 1 rfl) (dO.cell (hq.slT (Below.slT hB hl)) eg ⟨⟨0, 0⟩, 0⟩ Om Om 2 rfl)) hS <| Ti 13 rfl rfl hS <| Tk 14 rfl (fun _ _ => Hv rfl rfl rfl Om) hS ?_
 refine zI 4 11 (by kernel_rfl) rfl rfl rfl rfl rfl rfl rfl rfl (tw dR (fun r aW X J Y => ⟨.inl (hS.trans J), ?_⟩)) (eU (u := .agg #[_, _, _]) rfl dR fN rfl Dd Dd (fun s aX Z K p => ⟨.inl (hS.trans K), ?_⟩))
 have aa := ZO X hB
 have ab := Nat.le_trans (d9.size hS) (Nat.le_of_eq X.symm)
 clear X
 replace hB := Ze hB J
 replace a := J.at a
 replace hS := hS.trans J
 have g := nV (enc := fI) (sz := 3) Y aa
 have t : ∀ j, Value.ownBlock (.slice (some ⟨r, 0, none⟩) 0 0) = some j → V.heap.size ≤ j := fun j e => by have e2 : r = j := Option.some.inj e; rw [← e2]; exact ab
 refine zI 6 11 (by kernel_rfl) rfl rfl rfl rfl rfl rfl rfl rfl (gx (v := .slice (some ⟨r, 0, none⟩) 0 0) (v2 := xc) rfl rfl dR fN Dd g (Below.slT hB hch) (io) (by have := Below.size hB; omega) (by simp; omega) (by simp; omega) (fun y aY L d ay => ⟨.inl (du hS L (Nat.le_refl _) t), ?_⟩)) (eU (u := .agg #[_, _, _]) rfl dR fN rfl Dd Dd (fun s aZ M z p => ⟨.inl (hS.trans z), ?_⟩))
 have az := d9.size hS
 replace hS : d9 _ _ := du hS L (Nat.le_refl _) t
 replace d := dh.app (enc := fI) rfl rfl rfl rfl d
 have ac := qE t az ay
 replace hB := ZG hB L g
 replace a := At.grownOw a g L Dd
 clear g
 refine To 11 rfl (eU (u := .agg #[_, _, _]) rfl dR fN rfl Dd Dd fun s a0 N A p => ⟨.inl (hS.trans A), ?_⟩)
 have aj := ZO N hB
 have ak := Nat.le_trans (d9.size hS) (Nat.le_of_eq N.symm)
 have a1 := dh.neB (b := s) d (Nat.le_of_eq N.symm)
 clear N
 replace hB := Ze hB A
 replace a := A.at a
 replace d := A.ow d
 replace hS := hS.trans A
 refine To 12 rfl (gx (v := y) (v2 := .slice (some ⟨s, 0, none⟩) 1 1) rfl rfl dR fN Dd d (fm p rfl) rfl (by have := Below.size hB; omega) (by simp; omega) (by simp; omega) fun B a2 O f aA => ⟨.inl (du hS O (Nat.le_refl _) ac), ?_⟩)
 have aB := d9.size hS
 replace hS : d9 _ _ := du hS O (Nat.le_refl _) ac
 replace f := dh.snoc (enc := fI) (x := (l.getD i ⟨⟨0, 0⟩, 0⟩)) rfl rfl rfl rfl f
 have a3 := qE ac aB aA
 replace hB := ZG hB O d
 replace a := At.grownOw a d O Dd
 clear d
 refine To 15 rfl (TC (vs := [.agg #[_, _, _], xa, .int .i64 _, B, .int .i64 _]) zj (hih mm rfl _ _ _ _ (ch ++ [(l.getD i ⟨⟨0, 0⟩, 0⟩)]) (i + 1) _ (Below.slT hB hon) (Below.slT hB hmay) (Below.slT hB hl) f.sl (wg hlr Om hcr) (by rw [List.length_append, List.length_singleton]; omega)) rfl fun al a4 C D => ⟨.inl (hS.trans C), ?_⟩)
 replace hB := Ze hB C
 replace a := C.at a
 replace f := C.ow f
 replace hS := hS.trans C
 obtain rfl := D
 refine Td <| ZQ rfl (fun o => ?_) fun o => ?_
 refine Zr <| Zw (.bool true) rfl <| cT <| Zt <| dE (v := .bool true) rfl ⟨hB, ?_⟩
 first | exact tV (jU.2 ⟨i, by omega, hi, o⟩) | (have hil : l.length ≤ i := (by omega); exact lW (fun k => by obtain ⟨q, h1, h2, h3⟩ := jU.1 k; exact hq q h1 h2 (Nat.lt_of_lt_of_le h1 hil) h3))
 refine c9 <| U _ _ <| cY <| Zi rfl <| Zv (dp rfl rfl Om Om) <| Zi rfl <| cT ?_
 exact T _ _ (i + 1) Za ⟨rfl, trivial⟩ ⟨hB, a, Om, (fun q h1 h2 h3 => by rcases Nat.lt_succ_iff_lt_or_eq.1 h3 with h | h; exact hq q h1 h2 h; rw [h]; first | exact o | (rw [o]; decide)), trivial⟩ Zo
 have aj := ZO M hB
 have ak := Nat.le_trans (d9.size hS) (Nat.le_of_eq M.symm)
 have aC := dh.neB (b := s) g (Nat.le_of_eq M.symm)
 clear M
 replace hB := Ze hB z
 replace a := z.at a
 replace g := z.ow g
 replace hS := hS.trans z
 refine To 6 rfl (gx (v := .slice (some ⟨r, 0, none⟩) 0 0) (v2 := xc) rfl rfl dR fN Dd g (Below.slT hB hch) (io) (by have := Below.size hB; omega) (by simp; omega) (by simp; omega) fun y a5 E d aD => ⟨.inl (du hS E (Nat.le_refl _) t), ?_⟩)
 have aE := d9.size hS
 replace hS : d9 _ _ := du hS E (Nat.le_refl _) t
 replace d := dh.app (enc := fI) rfl rfl rfl rfl d
 have ad := qE t aE aD
 replace hB := ZG hB E g
 replace a := At.grownOw a g E Dd
 replace p := At.grownOwNe p aC E
 clear g
 refine To 12 rfl (gx (v := y) (v2 := .slice (some ⟨s, 0, none⟩) 1 1) rfl rfl dR fN Dd d (fm p rfl) rfl (by have := Below.size hB; omega) (by simp; omega) (by simp; omega) fun B a6 P f aF => ⟨.inl (du hS P (Nat.le_refl _) ad), ?_⟩)
 have aG := d9.size hS
 replace hS : d9 _ _ := du hS P (Nat.le_refl _) ad
 replace f := dh.snoc (enc := fI) (x := (l.getD i ⟨⟨0, 0⟩, 0⟩)) rfl rfl rfl rfl f
 have a7 := qE ad aG aF
 replace hB := ZG hB P d
 replace a := At.grownOw a d P Dd
 clear d
 refine To 15 rfl (TC (vs := [.agg #[_, _, _], xa, .int .i64 _, B, .int .i64 _]) zj (hih mm rfl _ _ _ _ (ch ++ [(l.getD i ⟨⟨0, 0⟩, 0⟩)]) (i + 1) _ (Below.slT hB hon) (Below.slT hB hmay) (Below.slT hB hl) f.sl (wg hlr Om hcr) (by rw [List.length_append, List.length_singleton]; omega)) rfl fun al a8 F D => ⟨.inl (hS.trans F), ?_⟩)
 replace hB := Ze hB F
 replace a := F.at a
 replace f := F.ow f
 replace hS := hS.trans F
 obtain rfl := D
 refine Td <| ZQ rfl (fun o => ?_) fun o => ?_
 refine Zr <| Zw (.bool true) rfl <| cT <| Zt <| dE (v := .bool true) rfl ⟨hB, ?_⟩
 first | exact tV (jU.2 ⟨i, by omega, hi, o⟩) | (have hil : l.length ≤ i := (by omega); exact lW (fun k => by obtain ⟨q, h1, h2, h3⟩ := jU.1 k; exact hq q h1 h2 (Nat.lt_of_lt_of_le h1 hil) h3))
 refine c9 <| U _ _ <| cY <| Zi rfl <| Zv (dp rfl rfl Om Om) <| Zi rfl <| cT ?_
 exact T _ _ (i + 1) Za ⟨rfl, trivial⟩ ⟨hB, a, Om, (fun q h1 h2 h3 => by rcases Nat.lt_succ_iff_lt_or_eq.1 h3 with h | h; exact hq q h1 h2 h; rw [h]; first | exact o | (rw [o]; decide)), trivial⟩ Zo
 have aj := ZO Z hB
 have ak := Nat.le_trans (d9.size hS) (Nat.le_of_eq Z.symm)
 clear Z
 replace hB := Ze hB K
 replace a := K.at a
 replace hS := hS.trans K
 refine To 4 rfl (tw dR fun r a9 Q G Y => ⟨.inl (hS.trans G), ?_⟩)
 have aa := ZO Q hB
 have ab := Nat.le_trans (d9.size hS) (Nat.le_of_eq Q.symm)
 have aH := Zn Q p.lt
 have aI : Value.ownBlock (.slice (some ⟨r, 0, none⟩) 0 0) ≠ some s := fun h => aH (Option.some.inj h).symm
 clear Q
 replace hB := Ze hB G
 replace a := G.at a
 replace p := G.at p
 replace hS := hS.trans G
 have g := nV (enc := fI) (sz := 3) Y aa
 have ae : ∀ j, Value.ownBlock (.slice (some ⟨r, 0, none⟩) 0 0) = some j → V.heap.size ≤ j := fun j e => by have e2 : r = j := Option.some.inj e; rw [← e2]; exact ab
 refine To 6 rfl (gx (v := .slice (some ⟨r, 0, none⟩) 0 0) (v2 := xc) rfl rfl dR fN Dd g (Below.slT hB hch) (io) (by have := Below.size hB; omega) (by simp; omega) (by simp; omega) fun y ba H d aJ => ⟨.inl (du hS H (Nat.le_refl _) ae), ?_⟩)
 have aK := d9.size hS
 replace hS : d9 _ _ := du hS H (Nat.le_refl _) ae
 replace d := dh.app (enc := fI) rfl rfl rfl rfl d
 have af := qE ae aK aJ
 replace hB := ZG hB H g
 replace a := At.grownOw a g H Dd
 replace p := At.grownOwNe p aI H
 clear g
 refine To 12 rfl (gx (v := y) (v2 := .slice (some ⟨s, 0, none⟩) 1 1) rfl rfl dR fN Dd d (fm p rfl) rfl (by have := Below.size hB; omega) (by simp; omega) (by simp; omega) fun B bb R f aL => ⟨.inl (du hS R (Nat.le_refl _) af), ?_⟩)
 have aM := d9.size hS
 replace hS : d9 _ _ := du hS R (Nat.le_refl _) af
 replace f := dh.snoc (enc := fI) (x := (l.getD i ⟨⟨0, 0⟩, 0⟩)) rfl rfl rfl rfl f
 have bc := qE af aM aL
 replace hB := ZG hB R d
 replace a := At.grownOw a d R Dd
 clear d
 refine To 15 rfl (TC (vs := [.agg #[_, _, _], xa, .int .i64 _, B, .int .i64 _]) zj (hih mm rfl _ _ _ _ (ch ++ [(l.getD i ⟨⟨0, 0⟩, 0⟩)]) (i + 1) _ (Below.slT hB hon) (Below.slT hB hmay) (Below.slT hB hl) f.sl (wg hlr Om hcr) (by rw [List.length_append, List.length_singleton]; omega)) rfl fun al bd I D => ⟨.inl (hS.trans I), ?_⟩)
 replace hB := Ze hB I
 replace a := I.at a
 replace f := I.ow f
 replace hS := hS.trans I
 obtain rfl := D
 refine Td <| ZQ rfl (fun o => ?_) fun o => ?_
 refine Zr <| Zw (.bool true) rfl <| cT <| Zt <| dE (v := .bool true) rfl ⟨hB, ?_⟩
 first | exact tV (jU.2 ⟨i, by omega, hi, o⟩) | (have hil : l.length ≤ i := (by omega); exact lW (fun k => by obtain ⟨q, h1, h2, h3⟩ := jU.1 k; exact hq q h1 h2 (Nat.lt_of_lt_of_le h1 hil) h3))
 refine c9 <| U _ _ <| cY <| Zi rfl <| Zv (dp rfl rfl Om Om) <| Zi rfl <| cT ?_
 exact T _ _ (i + 1) Za ⟨rfl, trivial⟩ ⟨hB, a, Om, (fun q h1 h2 h3 => by rcases Nat.lt_succ_iff_lt_or_eq.1 h3 with h | h; exact hq q h1 h2 h; rw [h]; first | exact o | (rw [o]; decide)), trivial⟩ Zo
 refine dt <| av _ _ <| Zr <| Zw (.bool false) rfl <| cT <| Zt <| dE (v := .bool false) rfl ⟨hB, ?_⟩
 first | exact tV (jU.2 ⟨i, by omega, hi, o⟩) | (have hil : l.length ≤ i := (by omega); exact lW (fun k => by obtain ⟨q, h1, h2, h3⟩ := jU.1 k; exact hq q h1 h2 (Nat.lt_of_lt_of_le h1 hil) h3))
theorem Sf (S : Sp) (l : List Rw) (hr : dL S = true) (hlb : l.length ≤ 1000) (hlr : gH l) : ∀ (m : Nat) (onV mayV xa xc : Value) (ch : List Rw) (frm : Nat) (w : World), dO fQ 4 w onV S.on → dO fQ 4 w mayV S.may → dO fI 3 w xa l → dO fI 3 w xc ch → gH ch → ch.length + m ≤ 1000 → Fn Tryz.prog 40 #[.agg #[.int .i64 S.n, onV, mayV], xa, .int .i64 (frm : Int), xc, .int .i64 (m : Int)] w fun v w' => v = .bool (ER S l m frm ch) := by
  intro m
  induction m with
  | zero =>
    intro onV mayV xa xc ch frm w h1 h2 h3 h4 h5 h6
    exact kl S onV mayV xa xc l ch frm 0 w h1 h2 h3 h4 hr hlb hlr h5 h6 (fun mm h => by cases h)
  | succ m ih =>
    intro onV mayV xa xc ch frm w h1 h2 h3 h4 h5 h6
    exact kl S onV mayV xa xc l ch frm (m + 1) w h1 h2 h3 h4 hr hlb hlr h5 h6 (fun mm h => by
      obtain rfl : m = mm := by omega
      exact ih)
theorem od (S : Sp) (onV mayV : Value) (w : World) (hon : dO fQ 4 w onV S.on) (hmay : dO fQ 4 w mayV S.may) (hr : dL S = true) (hn2 : S.n ≤ 2) (i : S.on.length ≤ 2) :
    Fn Tryz.prog 17 #[.agg #[.int .i64 S.n, onV, mayV]] w fun v w' => ∀ R, CK S R → v = .int .i64 (R.length : Int) := by
 refine dr (n := 18) Tryz.func17 rfl rfl (Nat.le_of_ble_eq_true rfl) ?_
 have hB : Below w.heap.size w w := Below.refl _ _
 have hl64 := PM hn2 i
 have hrb := Rn (S := S) (by omega)
 refine Zr <| Zy (dW (c := #[_, _, _]) rfl rfl fun j W3 g l a => ?_)
 have y := ZO g hB
 clear g
 replace hB := Ze hB l
 refine Zw (.int .i64 0) rfl <| cT <| Zr <| Zv (db rfl eJ rfl a) <| ZC (vs := [.agg #[_, _, _]]) PF (pu S _ _  _ (Below.slT hB hon) (Below.slT hB hmay) hr) rfl fun d W8 h b => ?_
 have m := (Below.size hB)
 replace hB := Ze hB h
 replace a := h.at a
 replace b := dh.mono b m
 refine Zw d rfl <| cT <| cZ fun z o => Zr <| Zw (.int .i64 0) rfl <| cT <| c7 ?_
 refine dz (σ := (Nat)) [2, 4, 7, 8, 9, 10, 11, 12, 13, 14, 15, 16, 17] (fun n => [(4, .int .i64 (n : Int))]) (fun n W => (Below w.heap.size w W) ∧ (At W j _ 24) ∧ (dh fI 3 42 W w.heap.size d _) ∧ (∀ q, q < n → ER S (AJ S) q 0 [] = false) ∧ (True)) (fun n => (AJ S).length + 1 - n) (0) ⟨rfl, trivial⟩ ⟨hB, a, b, eY, trivial⟩ ?_
 clear hB a b
 rintro n A B ⟨hB, a, b, hq, _⟩ C p
 refine cZ fun D r => Zr <| Zi rfl <| Zw d rfl <| Zv (dB (v := d) rfl b.sl dR) <| Zv (yN rfl rfl) <| cT <| ZQ rfl (fun s => ?_) fun s => ?_
 refine c9 <| r _ _ <| cZ fun E t => c7 <| Zr <| Zv (db rfl eJ rfl a) <| Zw d rfl <| Zi rfl <| ZC (vs := [.agg #[_, _, _], d, .int .i64 0, .slice none 0 0, .int .i64 _]) zj (Sf S (AJ S) hr Om hrb n _ _ _ _ [] 0 _ (Below.slT hB hon) (Below.slT hB hmay) b.sl dO.nil (fun x hx => by cases hx) (by rw [List.length_nil]; omega)) rfl fun F G f u => ?_
 replace hB := Ze hB f
 replace a := f.at a
 replace b := f.ow b
 obtain rfl := u
 refine cT <| ZQ rfl (fun e => ?_) fun e => ?_
 refine Zr <| Zi rfl <| Zi rfl <| cT <| Zt <| dE (v := .int .i64 _) rfl ⟨hB, ?_⟩
 intro R hR
 exact congrArg (fun k : Nat => Value.int .i64 (k : Int)) (Qm hR hr e hq)
 refine c9 <| t _ _ <| cY <| Zi rfl <| Zv (dp rfl rfl Om Om) <| Zi rfl <| cT ?_
 exact p _ _ (n + 1) Za ⟨rfl, trivial⟩ ⟨hB, a, b, (eh hq (by first | exact e | exact Bool.eq_false_iff.2 e)), trivial⟩ Zo
 refine dt <| o _ _ <| Zr <| Zi rfl <| cT <| Zt <| dE (v := .int .i64 _) rfl ⟨hB, ?_⟩
 intro R hR
 exact (OI hR hr (k := n) Om hq).elim
set_option maxRecDepth 20000 in
theorem lV (S : Sp) (onV mayV : Value) (w : World) (hon : dO fQ 4 w onV S.on) (hmay : dO fQ 4 w mayV S.may) :
    Fn Tryz.prog 5 #[.agg #[.int .i64 S.n, onV, mayV]] w fun v w' => v = .bool true := by
 refine dr (n := 59) Tryz.func5 rfl rfl (Nat.le_of_ble_eq_true rfl) ?_
 have hB : Below w.heap.size w w := Below.refl _ _
 refine Zr <| Zy (dW (c := #[_, _, _]) rfl rfl fun aa W3 p I a => ?_)
 have ab := ZO p hB
 clear p
 replace hB := Ze hB I
 refine Zw (.bool false) rfl <| cT <| cZ fun K6 J => Zr <| Zv (db rfl eJ rfl a) <| ZC (vs := [.agg #[_, _, _]]) Qo (oL S _ _  _ (Below.slT hB hon) (Below.slT hB hmay) ) rfl fun ac ad q K => ?_
 replace hB := Ze hB q
 replace a := q.at a
 obtain rfl := K
 refine ZX rfl (fun L => ?_) fun L => ?_
 refine Zs <| Zs <| Zs <| Zw (.bool true) rfl <| Zw (.bool true) rfl <| Zs <| Zs <| Zs <| Zw (.bool true) rfl <| Zw (.bool true) rfl <| Zs <| Zs <| Zs <| Zs ?_
 refine Zw (.bool true) rfl <| cT <| dA rfl <| Zr <| ZC Bk (gm _) rfl fun l ae r f => ?_
 replace hB := Ze hB r
 replace a := r.at a
 obtain rfl := f
 refine Zb rfl <| cT <| Zt <| dE (v := .bool _) rfl ⟨hB, ?_⟩
 rfl
 refine Zv (db rfl eJ rfl a) <| ZC (vs := [.agg #[_, _, _]]) N9 (pc S _ _  _ (Below.slT hB hon) (Below.slT hB hmay) ) rfl fun af ag s M => ?_
 replace hB := Ze hB s
 replace a := s.at a
 obtain rfl := M
 refine Zv (fG rfl) <| Zb rfl <| ZX rfl (fun t => ?_) fun t => ?_
 refine Zs <| Zs <| Zs <| Zw (.bool true) rfl <| Zw (.bool true) rfl <| Zs <| Zs <| Zs <| Zs <| Zw (.bool true) rfl <| cT <| dA rfl <| Zr <| ZC Bk (gm _) rfl fun l ah u f => ?_
 replace hB := Ze hB u
 replace a := u.at a
 obtain rfl := f
 refine Zb rfl <| cT <| Zt <| dE (v := .bool _) rfl ⟨hB, ?_⟩
 rfl
 refine Zf rfl fD <| Zl rfl dC a rfl <| Zv (jp rfl rfl) <| Zb rfl <| ZX rfl (fun N => ?_) fun N => ?_
 refine Zs <| Zs <| Zs <| Zs <| Zw (.bool true) rfl <| cT <| dA rfl <| Zr <| ZC Bk (gm _) rfl fun l ai x f => ?_
 replace hB := Ze hB x
 replace a := x.at a
 obtain rfl := f
 refine Zb rfl <| cT <| Zt <| dE (v := .bool _) rfl ⟨hB, ?_⟩
 rfl
 refine Zf rfl fE <| ZL onV rfl eB a rfl <| Zv (dB (v := onV) rfl (Below.slT hB hon) d5) <| Zv (jp rfl rfl) <| Zb rfl <| cT <| ZQ rfl (fun O => ?_) fun O => ?_
 refine Zr <| ZC Bk (gm _) rfl fun l aj y f => ?_
 replace hB := Ze hB y
 replace a := y.at a
 obtain rfl := f
 refine Zb rfl <| cT <| Zt <| dE (v := .bool _) rfl ⟨hB, ?_⟩
 rfl
 refine c9 <| J _ _ <| Zr <| Zv (db rfl eJ rfl a) <| ZC (vs := [.agg #[_, _, _]]) Oo (wO S _ _  _ (Below.slT hB hon) (Below.slT hB hmay) ) rfl fun ak al z P => ?_
 replace hB := Ze hB z
 replace a := z.at a
 obtain rfl := P
 refine Zw (.tuple #[.agg #[.int .i64 _, .int .i64 _], .int .i64 _]) rfl <| Zv (dK rfl) <| Zv (dM rfl) <| Zy (dw z9 rfl fun ao ap A B b => ?_)
 have Q := ZO A hB
 clear A
 replace hB := Ze hB B
 replace a := B.at a
 refine Zy (dg rfl rfl o4 rfl b rfl rfl fun aq C R => ?_)
 replace hB := Zg hB C Q
 replace a := At.grownAt a b C Dd
 replace b := R
 refine Zi rfl <| cT ?_
 have hr : dL S = true := ig t
 have hn3 : S.n ≤ 3 := by omega
 have T : S.may.length ≤ 2 := by have := (dX.1 hr).2.2.2.2.1; omega
 rw [if_pos hr, if_pos hr] at b
 refine Zr <| Zv (db rfl eJ rfl a) <| Zv (db rfl o4 rfl b) <| ZC (vs := [.agg #[_, _, _], .agg #[_, _]]) J7 (ld S _ _ 20000 1000000 _ (Below.slT hB hon) (Below.slT hB hmay) (fun _ => ⟨by omega, by omega⟩)) rfl fun ar au m D => ?_
 have U := (Below.size hB)
 replace hB := Ze hB m
 replace a := m.at a
 replace b := m.at b
 rw [if_pos (show dL S = true ∧ qR _ _ from ⟨hr, by decide⟩)] at D
 obtain ⟨x4_2, how4_2, why4_2, sp4_2, Rr4_2, rfl, d, hmo4_2⟩ := D
 replace d := dh.mono d U
 obtain ⟨rfl, rfl, hsa4_2, hsb4_2, hmin4_2⟩ := I8 hr hn3 T hmo4_2
 refine Zw (.tuple #[.agg #[x4_2, .int .i64 1, .int .i64 0, .int .i64 _], .int .i64 0]) rfl <| Zv (dK rfl) <| Zv (dM rfl) <| Zy (dw m0 rfl fun av aw E j e => ?_)
 have V := ZO E hB
 clear E
 replace hB := Ze hB j
 replace a := j.at a
 replace b := j.at b
 replace d := j.ow d
 refine Zy (dg rfl rfl fp rfl e rfl (by exact oG (dh.one d)) fun ax k W => ?_)
 replace hB := Zg hB k V
 replace a := At.grownAt a e k Dd
 replace b := At.grownAt b e k Dd
 replace d := dh.grownAt d e k Dd
 replace e := W
 refine Zw (.int .i64 0) rfl <| cT <| Zd d9 fun X i => ?_
 replace hB := Ze hB i
 replace a := i.at a
 replace b := i.at b
 replace d := i.ow d
 replace e := i.at e
 have hS := d9.refl X
 refine Ti 0 rfl rfl hS <| Tk 1 rfl (fun _ _ => eD rfl rfl) hS <| Tx 2 rfl (fun _ _ => iY (v := .bool _) rfl) hS (fun o => ?_) fun o => ?_
 refine Tw 3 (.int .i64 0) rfl rfl hS <| Tk 4 rfl (fun _ _ => eD rfl rfl) hS <| Ty 5 rfl rfl hS <| Tx 6 rfl (fun _ _ => iY (v := .bool _) rfl) hS (fun F => ?_) fun F => ?_
 refine Tf 7 rfl rfl tu hS <| Tk 8 rfl (fun _ hq => dk (v := .int .i64 _) rfl dC (At.cell (hq.at e) rfl)) hS <| Tk 9 rfl (fun _ _ => eD rfl rfl) hS <| Ty 10 rfl rfl hS <| Tx 11 rfl (fun _ _ => iY (v := .bool _) rfl) hS (fun G => ?_) fun G => ?_
 refine Tf 12 rfl rfl ot hS <| Tk 13 rfl (fun _ hq => dk (v := x4_2) rfl mg (At.cell (hq.at e) rfl)) hS <| Tk 14 rfl (fun _ hq => dB (v := x4_2) rfl ((hq.ow d)).sl dR) hS <| Tk 15 rfl (fun _ hq => db rfl eJ rfl (hq.at a)) hS <| To 16 rfl (TC (vs := [.agg #[_, _, _]]) Qa (od S _ _  _ (Below.slT hB hon) (Below.slT hB hmay) hr Om Om) rfl fun ay az g Y => ⟨.inl (hS.trans g), ?_⟩)
 replace hB := Ze hB g
 replace a := g.at a
 replace b := g.at b
 replace d := g.ow d
 replace e := g.at e
 replace hS := hS.trans g
 obtain rfl := Y _ hmin4_2
 refine Tk 17 rfl (fun _ _ => eD rfl rfl) hS <| Ty 18 rfl rfl hS <| Tx 19 rfl (fun _ _ => iY (v := .bool _) rfl) hS (fun H => ?_) fun H => ?_
 refine To 20 rfl (TC Bk (gm _) rfl fun aA aB h Z => ⟨.inl (hS.trans h), ?_⟩)
 replace hB := Ze hB h
 replace a := h.at a
 replace b := h.at b
 replace d := h.ow d
 replace e := h.at e
 replace hS := hS.trans h
 obtain rfl := Z
 refine Ty 21 rfl rfl hS <| Ty 22 rfl rfl hS <| Td <| Zt <| dE (v := .bool _) rfl ⟨hB, ?_⟩
 rfl
 exact absurd rfl H
 exact absurd rfl G
 exact absurd rfl F
 rw [if_pos hr] at o; exact absurd rfl o
end
end Go.Proofs.YteimkklmmanncaaGreat
