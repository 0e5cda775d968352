/- What the fewest rows come to, with the room and the steps they ask for. No program in it. The walks of package minim. Room and steps that are enough, for few inputs and outputs. No program in it. The document's fewest rows, tried in all choices; and that enough is enough. No program in it. The walks -/
import Derived.Test.YteimkklmmanncaaGreatMin
namespace Go.Proofs.YteimkklmmanncaaGreat
set_option linter.unusedVariables false
set_option linter.unusedSimpArgs false
section
open Go Go.RowKit
def L6 (R : Nat) (S : Sp) (e : Int) : Prop := ∃ ns' id, Pb R [] S ns' id e ∧ ns'.length ≤ R ∧ Wf ns'
def M6 (S : Sp) (T : Nat) : Prop := ∃ L ks, lD (lp S (eR S)) L ks ∧ T + 1 < 2 ^ cnt L
theorem wA {U r : List Int} (h : U.Nodup) : ∀ k, (o4 U r k).Nodup
 | 0 => h
 | k + 1 => jl (wA h k) _
theorem M4 {l : List Int} {c : Int} : c ∈ o4 [] l l.length ↔ c ∈ l := by
 rw [pT _ (Nat.le_refl _), List.take_length]; simp
theorem Fo {n b : Int} {L : ML} {N : Nat} {TI : TypeId} {v : Value} {w' : World} (h : (∃ tv X s, v = .tuple #[tv, .int .i64 s, .int .i64 0] ∧ dh d9 1 TI w' N tv X ∧ Kt L n X ∧ X.length ≤ 4000 ∧ 0 ≤ s ∧ s ≤ b) ∨ (v = .tuple #[.slice none 0 0, .int .i64 b, .int .i64 6] ∧ b.toNat + 1 < 2 ^ cnt L)) (hb : 0 ≤ b) :
  ∃ tv X s e, v = .tuple #[tv, .int .i64 s, .int .i64 e] ∧ dh d9 1 TI w' N tv X ∧ X.length ≤ 4000 ∧ 0 ≤ s ∧ s ≤ b ∧ (e = 0 → Kt L n X) ∧ (¬ e = 0 → e = 6 ∧ b.toNat + 1 < 2 ^ cnt L) := by
 obtain ⟨tv, X, s, h1, h2, h3, h4, h5, h6⟩ | ⟨h1, h2⟩ := h
 ·exact ⟨tv, X, s, 0, h1, h2, h4, h5, h6, fun _ => h3, fun q => absurd rfl q⟩
 ·exact ⟨_, [], b, 6, h1, dh.nil, Nat.zero_le _, hb, Int.le_refl _, (fun q => (by cases q)), (fun _ => ⟨rfl, h2⟩)⟩
section
variable {S : Sp}
theorem MS (hr : dP S = true) (hl : (eR S).length ≤ 4000) : zj S (eR S) = 0 := Mz hr (fun k hk => gn (uf hr k hk)) (by omega)
theorem F5 {L : ML} {T : List Int} (hr : dP S = true) (hl : (eR S).length ≤ 4000) (h : lD (lp S (eR S)) L T) : i5 L L.length = true := by
 have h1 := JZ hr hl
 obtain ⟨X, _, h2, _⟩ := h.dn _ (kM _ _) (pV (jS (S := S) hl) h1)
 exact LP h2
theorem Ja (hr : dP S = true) : (lp S (eR S)).length ≤ 1024 := by rw [F1]; exact GD hr
theorem QJ {R : Nat} {ns' : List Nd} {id : Nat} {e : Int} (h : Pb R [] S ns' id e) (h0 : ¬ e = 0) : e = 5 := (NC h).resolve_left h0
end
theorem oH {v : Value} {a b c : Int} (h : v.oneCell' = true) : [v, Value.int .i64 a, .int .i64 b, .int .i64 c].all Value.oneCell' = true := by simp only [List.all_cons, List.all_nil, h, Bool.and_true, Bool.true_and]; rfl
def Qm (R T : Nat) (S : Sp) (how sp e : Int) (Rr : List Rw) : Prop := (e = 0 ∧ how = 1 ∧ 0 ≤ sp ∧ sp ≤ T ∧ L6 R S 0 ∧ L5 S Rr) ∨ (e = 5 ∧ L6 R S 5) ∨ (e = 6 ∧ L6 R S 0 ∧ M6 S T)
def px (b0 b1 : Int) : Prop := (0 ≤ b0 ∧ b0 ≤ 20000) ∧ 0 ≤ b1 ∧ b1 ≤ 1000000
instance (b0 b1 : Int) : Decidable (px b0 b1) := inferInstanceAs (Decidable (_ ∧ _))
def Oe (R T : Nat) (S : Sp) (how why sp : Int) (Rr : List Rw) : Prop := (how = 1 ∧ why = 0 ∧ 0 ≤ sp ∧ sp ≤ T ∧ L6 R S 0 ∧ L5 S Rr) ∨ (how = 2 ∧ Rr = xv S (kS S) ∧ ((why = 5 ∧ sp = 0 ∧ L6 R S 5) ∨ (why = 6 ∧ sp = T ∧ L6 R S 0 ∧ M6 S T)))
theorem MW {b0 b1 : Int} (h : px b0 b1) : ∃ R T : Nat, b0 = (R : Int) ∧ b1 = (T : Int) ∧ True ∧ R ≤ 20000 ∧ T ≤ 1000000 := by
 obtain ⟨⟨h1, h2⟩, h3, h4⟩ := h
 exact ⟨b0.toNat, b1.toNat, by omega, by omega, trivial, by omega, by omega⟩
section
variable {R T : Nat} {S : Sp} {how sp e : Int} {Rr : List Rw}
theorem Bx (h : Qm R T S how sp e Rr) (he : e = 0) : Oe (R : Int).toNat (T : Int).toNat S how 0 sp Rr := by
 rw [Int.toNat_natCast, Int.toNat_natCast]
 rcases h with h | h | h
 ·exact .inl ⟨h.2.1, rfl, h.2.2.1, h.2.2.2.1, h.2.2.2.2.1, h.2.2.2.2.2⟩
 ·have := h.1; omega
 ·have := h.1; omega
theorem BE (h : Qm R T S how sp e Rr) (he : e = 6) : Oe (R : Int).toNat (T : Int).toNat S 2 e (T : Int) (xv S (kS S)) := by
 rw [Int.toNat_natCast, Int.toNat_natCast]
 rcases h with h | h | h
 ·have := h.1; omega
 ·have := h.1; omega
 ·exact .inr ⟨rfl, rfl, .inr ⟨he, rfl, h.2⟩⟩
theorem tY (h : Qm R T S how sp e Rr) (h0 : ¬ e = 0) (h6 : ¬ e = 6) : Oe (R : Int).toNat (T : Int).toNat S 2 e 0 (xv S (kS S)) := by
 rw [Int.toNat_natCast, Int.toNat_natCast]
 rcases h with h | h | h
 ·exact absurd h.1 h0
 ·exact .inr ⟨rfl, rfl, .inl ⟨h.1, rfl, h.2⟩⟩
 ·exact absurd h.1 h6
end
end
section
open Go Go.RowKit
theorem OG : dC Tryz.prog 65 = true := by kernel_rfl
theorem Np : dC Tryz.prog 66 = true := by kernel_rfl
theorem Oj : dC Tryz.prog 14 = true := by kernel_rfl
theorem mL : eL Tryz.prog 32 = some (.agg #[.slice none 0 0, .int .i64 0, .int .i64 0, .int .i64 0]) := by kernel_rfl
theorem te : fx Tryz.prog 26 0 = some 0 := by kernel_rfl
theorem Nc : dC Tryz.prog 42 = true := by kernel_rfl
theorem tx : (Tryz.prog.info? 29).map (·.size) = some 1 := by kernel_rfl
theorem jg {f : Nat → Value} {w : World} {d : Option Nat} {ty : TypeId} {ps : String} {af : Array Edge} {g : Option (Nat × Bool)}    :
    (execOp (dO f) ⟨d, .build 32 #[], ty, ps, af, g⟩).run Tryz.prog w = .ok (.value (.agg #[.slice none 0 0, .int .i64 0, .int .i64 0, .int .i64 0])) w := by
  obtain ⟨i0, hi0, hz0⟩ := Option.bind_eq_some_iff.1 (show (Tryz.prog.info? 32).bind (·.zero) = _ from mL)
  obtain ⟨j3, hj3, hs3⟩ := Option.map_eq_some_iff.1 ik
  obtain ⟨j29, hj29, hs29⟩ := Option.map_eq_some_iff.1 tx
  obtain ⟨j30, hj30, hs30⟩ := Option.map_eq_some_iff.1 qr
  simp [execOp, Instr.build, zeroValue, typeInfo, sizeOf, hi0, hz0, run_underlying Tryz.underlying32, Instr.fill, eW, hj3, hs3, hj29, hs29, hj30, hs30]
theorem fi : kY Tryz.prog 32 = some 4 := by kernel_rfl
theorem O1 : dC Tryz.prog 43 = true := by kernel_rfl
theorem qf : fx Tryz.prog 26 1 = some 1 := by kernel_rfl
theorem NM : dC Tryz.prog 45 = true := by kernel_rfl
theorem wM {f : Nat → Value} {w : World} {d : Option Nat} {ty : TypeId} {ps : String} {af : Array Edge} {g : Option (Nat × Bool)} {x0 x1 : Operand} {c0_0 c1_0 : Value} (h0 : dO f x0 = c0_0) (k0 : c0_0.cells = #[c0_0]) (h1 : dO f x1 = c1_0) (k1 : c1_0.cells = #[c1_0]) :
    (execOp (dO f) ⟨d, .build 32 #[(1, x0), (3, x1)], ty, ps, af, g⟩).run Tryz.prog w = .ok (.value (.agg #[.slice none 0 0, c0_0, .int .i64 0, c1_0])) w := by
  obtain ⟨i0, hi0, hz0⟩ := Option.bind_eq_some_iff.1 (show (Tryz.prog.info? 32).bind (·.zero) = _ from mL)
  obtain ⟨j3, hj3, hs3⟩ := Option.map_eq_some_iff.1 ik
  obtain ⟨j29, hj29, hs29⟩ := Option.map_eq_some_iff.1 tx
  obtain ⟨j30, hj30, hs30⟩ := Option.map_eq_some_iff.1 qr
  simp [execOp, h0, k0, h1, k1, Instr.build, zeroValue, typeInfo, sizeOf, hi0, hz0, run_underlying Tryz.underlying32, Instr.fill, eW, hj3, hs3, hj29, hs29, hj30, hs30]
theorem nW : fx Tryz.prog 32 0 = some 0 := by kernel_rfl
theorem M3 : dC Tryz.prog 21 = true := by kernel_rfl
theorem NB : dC Tryz.prog 22 = true := by kernel_rfl
theorem rj {f : Nat → Value} {w : World} {d : Option Nat} {ty : TypeId} {ps : String} {af : Array Edge} {g : Option (Nat × Bool)} {x0 x1 x2 x3 : Operand} {c0_0 c1_0 c2_0 c3_0 : Value} (h0 : dO f x0 = c0_0) (k0 : c0_0.cells = #[c0_0]) (h1 : dO f x1 = c1_0) (k1 : c1_0.cells = #[c1_0]) (h2 : dO f x2 = c2_0) (k2 : c2_0.cells = #[c2_0]) (h3 : dO f x3 = c3_0) (k3 : c3_0.cells = #[c3_0]) :
    (execOp (dO f) ⟨d, .build 32 #[(0, x0), (1, x1), (2, x2), (3, x3)], ty, ps, af, g⟩).run Tryz.prog w = .ok (.value (.agg #[c0_0, c1_0, c2_0, c3_0])) w := by
  obtain ⟨i0, hi0, hz0⟩ := Option.bind_eq_some_iff.1 (show (Tryz.prog.info? 32).bind (·.zero) = _ from mL)
  obtain ⟨j3, hj3, hs3⟩ := Option.map_eq_some_iff.1 ik
  obtain ⟨j29, hj29, hs29⟩ := Option.map_eq_some_iff.1 tx
  obtain ⟨j30, hj30, hs30⟩ := Option.map_eq_some_iff.1 qr
  simp [execOp, h0, k0, h1, k1, h2, k2, h3, k3, Instr.build, zeroValue, typeInfo, sizeOf, hi0, hz0, run_underlying Tryz.underlying32, Instr.fill, eW, hj3, hs3, hj29, hs29, hj30, hs30]
theorem Kb : kY Tryz.prog 26 = some 2 := by kernel_rfl
theorem Ns : dC Tryz.prog 19 = true := by kernel_rfl
theorem OP : eL Tryz.prog 30 = some (.int .i64 0) := by kernel_rfl
theorem IL : dC Tryz.prog 20 = true := by kernel_rfl
theorem Iu : eL Tryz.prog 26 = some (.agg #[.int .i64 0, .int .i64 0]) := by kernel_rfl
theorem Ah {f : Nat → Value} {w : World} {d : Option Nat} {ty : TypeId} {ps : String} {af : Array Edge} {g : Option (Nat × Bool)}    :
    (execOp (dO f) ⟨d, .build 26 #[], ty, ps, af, g⟩).run Tryz.prog w = .ok (.value (.agg #[.int .i64 0, .int .i64 0])) w := by
  obtain ⟨i0, hi0, hz0⟩ := Option.bind_eq_some_iff.1 (show (Tryz.prog.info? 26).bind (·.zero) = _ from Iu)
  obtain ⟨j3, hj3, hs3⟩ := Option.map_eq_some_iff.1 ik
  simp [execOp, Instr.build, zeroValue, typeInfo, sizeOf, hi0, hz0, run_underlying Tryz.underlying26, Instr.fill, eW, hj3, hs3]
theorem pz {f : Nat → Value} {w : World} {d : Option Nat} {ty : TypeId} {ps : String} {af : Array Edge} {g : Option (Nat × Bool)} {x0 x1 : Operand} {c0_0 c1_0 : Value} (h0 : dO f x0 = c0_0) (k0 : c0_0.cells = #[c0_0]) (h1 : dO f x1 = c1_0) (k1 : c1_0.cells = #[c1_0]) :
    (execOp (dO f) ⟨d, .build 26 #[(0, x0), (1, x1)], ty, ps, af, g⟩).run Tryz.prog w = .ok (.value (.agg #[c0_0, c1_0])) w := by
  obtain ⟨i0, hi0, hz0⟩ := Option.bind_eq_some_iff.1 (show (Tryz.prog.info? 26).bind (·.zero) = _ from Iu)
  obtain ⟨j3, hj3, hs3⟩ := Option.map_eq_some_iff.1 ik
  simp [execOp, h0, k0, h1, k1, Instr.build, zeroValue, typeInfo, sizeOf, hi0, hz0, run_underlying Tryz.underlying26, Instr.fill, eW, hj3, hs3]
set_option maxRecDepth 20000 in
theorem uW (S : Sp) (onV mayV : Value) (R : Nat) (w : World) (hon : dM gp 4 w onV S.on) (hmay : dM gp 4 w mayV S.may) (hr : dP S = true) (hR : R ≤ 20000) :
    Fn Tryz.prog 42 #[.agg #[.int .i64 S.n, onV, mayV], .int .i64 (R : Int)] w fun v w' => ∃ x e, v = .tuple #[x, .int .i64 e] ∧ L6 R S e ∧ (e = 0 → dh gv 3 42 w' w.heap.size x (eR S)) := by
 refine dq (n := 31) Tryz.func42 rfl rfl (Nat.le_of_ble_eq_true rfl) ?_
 have hB : Below w.heap.size w w := Below.refl _ _
 refine Zr <| Zy (dU (c := #[_, _, _]) rfl rfl fun A W3 g m a => ?_)
 have B := ZO g hB
 clear g
 replace hB := Ze hB m
 refine Zw (.slice none 0 0) rfl <| Zw (.int .i64 0) rfl <| cT <| Zr <| Zi rfl <| ZC OG (Fh R _ hR) rfl fun C W8 h o => ?_
 have p := (Below.size hB)
 replace hB := Ze hB h
 replace a := h.at a
 obtain ⟨bz, ba, bm, rfl, hz, hD⟩ := o
 replace hD := fD.mono hD p
 refine Zw (.tuple #[.pointer (some ⟨bz, 0, none⟩), .int .i64 0]) rfl <| Zv (dI rfl) <| Zv (dK rfl) <| Zp rfl <| Zw (.int .i64 0) rfl <| cT <| cY fun D r => Zr <| Zw (.int .i64 0) rfl <| Zv (f7 rfl rfl) <| cT <| ZQ rfl (fun i => ?_) fun i => ?_
 exact absurd rfl i
 refine c9 <| r _ _ <| cY fun E s => Zr <| Zp rfl <| Zv (db rfl eV rfl a) <| ZH (vs := [.pointer (some ⟨bz, 0, none⟩), .agg #[_, _, _]]) Np (yz w _ _ _ _ _ S onV mayV _ hB hz hD hr hon hmay) rfl fun F G t => ?_
 obtain ⟨H, u, j, rfl, d, y, k⟩ := t
 replace hB := Below.dx hB (Nat.le_refl _) (Nat.le_refl _) d
 replace a := At.dx hD d a Dd Dd
 replace hz := At.dx hD d hz Dd Dd
 replace hD := y
 refine Zw (.tuple #[.int .i64 (u : Int), .int .i64 j]) rfl <| Zv (dI rfl) <| Zv (dK rfl) <| Zi rfl <| Zi rfl <| cT ?_
 have hro5 := hD.room
 have hwf5 := hD.wf
 refine Zr <| Zi rfl <| Zv (f7 rfl rfl) <| cT <| ZQ rfl (fun f => ?_) fun f => ?_
 refine Zr <| Zi rfl <| Zw (.slice none 0 0) rfl <| Zi rfl <| cT <| Zt <| dZ (v := .slice none 0 0) rfl (v1 := .int .i64 _) rfl ⟨hB, ?_⟩
 exact ⟨_, _, rfl, ⟨_, _, k, hro5, hwf5⟩, fun q => absurd q f⟩
 refine c9 <| s _ _ ?_
 have he0 : j = 0 := Decidable.of_not_not f
 refine Zr <| Zv (db rfl eV rfl a) <| ZC (vs := [.agg #[_, _, _]]) Oj (Ba S _ _  _ (Below.slT hB hon) (Below.slT hB hmay) ) rfl fun I J b l => ?_
 have z := (Below.size hB)
 replace hB := Ze hB b
 replace a := b.at a
 replace hD := fD.ext b hD
 replace hz := b.at hz
 rw [if_pos hr] at l
 obtain ⟨xl, rfl, hol⟩ := l
 replace hol := dh.mono hol z
 refine Zv (dI rfl) <| Zv (dK rfl) <| Zw xl rfl <| Zw (.int .i64 0) rfl <| cT <| Zt <| dZ (v := xl) rfl (v1 := .int .i64 0) rfl ⟨hB, ?_⟩
 exact ⟨_, _, rfl, ⟨_, _, he0 ▸ k, hro5, hwf5⟩, fun _ => hol⟩
set_option maxRecDepth 20000 in
theorem wo (S : Sp) (onV mayV : Value) (R T : Nat) (w : World) (hon : dM gp 4 w onV S.on) (hmay : dM gp 4 w mayV S.may) (hr : dP S = true) (hR : R ≤ 20000) (hT : T ≤ 1000000) (h4 : S.n ≤ 4) (h3 : S.on.length ≤ 3) :
    Fn Tryz.prog 19 #[.agg #[.int .i64 S.n, onV, mayV], .agg #[.int .i64 (R : Int), .int .i64 (T : Int)]] w fun v w' => ∃ x how sp e Rr, v = .tuple #[.agg #[x, .int .i64 how, .int .i64 0, .int .i64 sp], .int .i64 e] ∧ dh gv 3 42 w' w.heap.size x Rr ∧ Qm R T S how sp e Rr := by
 refine dq (n := 91) Tryz.func19 rfl rfl (Nat.le_of_ble_eq_true rfl) ?_
 have hB : Below w.heap.size w w := Below.refl _ _
 refine Zr <| Zy (dU (c := #[_, _, _]) rfl rfl fun aB W3 ai aC f => ?_)
 have bm := ZO ai hB
 clear ai
 replace hB := Ze hB aC
 refine Zy (dU (c := #[_, _]) rfl rfl fun aD W6 aj ak g => ?_)
 have bn := ZO aj hB
 clear aj
 replace hB := Ze hB ak
 replace f := ak.at f
 refine Zy (dt mL rfl fun al W9 ao U d => ?_)
 have V := ZO ao hB
 clear ao
 replace hB := Ze hB U
 replace f := U.at f
 replace g := U.at g
 refine Zw (.int .i64 0) rfl <| cT <| Zr <| Zv (db rfl eV rfl f) <| Zf rfl te <| Zl rfl dB g rfl <| ZC (vs := [.agg #[_, _, _], .int .i64 _]) Nc (uW S _ _ R _ (Below.slT hB hon) (Below.slT hB hmay) hr hR) rfl fun bo bp L aE => ?_
 have aF := (Below.size hB)
 replace hB := Ze hB L
 replace f := L.at f
 replace g := L.at g
 replace d := L.at d
 obtain ⟨x1_3, e1_3, rfl, hno1_3, hxo1_3⟩ := aE
 have hszP := aF
 refine Zw (.tuple #[x1_3, .int .i64 e1_3]) rfl <| Zv (dI rfl) <| Zv (dK rfl) <| Zw x1_3 rfl <| Zw (.int .i64 e1_3) rfl <| cT <| cY fun bq aG => Zr <| Zw (.int .i64 e1_3) rfl <| Zv (f7 rfl rfl) <| cT <| ZQ rfl (fun X => ?_) fun X => ?_
 refine Zr <| Zv (jg ) <| Zw (.int .i64 e1_3) rfl <| Zy (dg rfl rfl fi rfl d rfl rfl fun br Y aH => ?_)
 replace hB := Zg hB Y V
 replace f := At.grownAt f d Y Dd
 replace g := At.grownAt g d Y Dd
 replace d := aH
 refine Zw (.int .i64 e1_3) rfl <| cT <| Zt <| fw rfl fi d rfl (v1 := .int .i64 e1_3) rfl ⟨hB, ?_⟩
 exact ⟨_, _, _, _, _, rfl, dh.nil, .inr (.inl (by obtain ⟨ns', id, h⟩ := hno1_3; obtain rfl := QJ h.1 X; exact ⟨rfl, ns', id, h⟩))⟩
 refine c9 <| aG _ _ ?_
 have he0 : e1_3 = 0 := Decidable.of_not_not X
 have hxo := dh.mono (hxo1_3 he0) hszP
 have hl2 := Fp hr h4 h3
 have hl4 : (eR S).length ≤ 4000 := by omega
 have aI := MS hr hl4
 have aJ := jS (S := S) hl4
 have hrl0 := Ja hr
 refine Zr <| Zv (db rfl eV rfl f) <| Zw x1_3 rfl <| ZC (vs := [.agg #[_, _, _], x1_3]) O1 (yu S _ _ _ (eR S) _ (Below.slT hB hon) (Below.slT hB hmay) hxo.sl Om (Nu hr)) rfl fun bs bt H ap => ?_
 replace hB := Ze hB H
 replace f := H.at f
 replace g := H.at g
 replace d := H.at d
 replace hxo := H.ow hxo
 rw [if_pos aI] at ap
 obtain ⟨rv4_2, bu, rfl, hk4_2, hLO4_2⟩ := ap
 replace hk4_2 := dh.mono hk4_2 (Nat.zero_le _)
 replace hLO4_2 := LO.mono hLO4_2 (Nat.zero_le _)
 refine Zw (.tuple #[.agg #[.int .i64 _, rv4_2], .int .i64 0]) rfl <| Zv (dI rfl) <| Zv (dK rfl) <| Zy (dt ia rfl fun aK bv aq D i => ?_)
 have aL := ZO aq hB
 clear aq
 replace hB := Ze hB D
 replace f := D.at f
 replace g := D.at g
 replace d := D.at d
 replace hxo := D.ow hxo
 replace hk4_2 := D.ow hk4_2
 replace hLO4_2 := LO.ext D hLO4_2
 refine Zy (dg rfl rfl dH rfl i rfl (by exact ib (dh.one hk4_2)) fun bw E aM => ?_)
 replace hB := Zg hB E aL
 replace f := At.grownAt f i E Dd
 replace g := At.grownAt g i E Dd
 replace d := At.grownAt d i E Dd
 replace hxo := dh.grownAt hxo i E Dd
 replace hk4_2 := dh.grownAt hk4_2 i E Dd
 replace hLO4_2 := LO.grownAt hLO4_2 i E Dd
 replace i := aM
 refine Zw (.int .i64 0) rfl <| cT <| cY fun bx aN => Zr <| Zw (.int .i64 0) rfl <| Zv (f7 rfl rfl) <| cT <| ZQ rfl (fun ar => ?_) fun ar => ?_
 exact absurd rfl ar
 refine c9 <| aN _ _ <| Zr <| Zv (db rfl dH rfl i) <| ZC (vs := [.agg #[_, _]]) I7 (oQ _ _ _ (lp S (eR S)) _ (dh.mono hk4_2 (Nat.zero_le _)) (LO.mono hLO4_2 (Nat.zero_le _)) aJ Om) rfl fun bz bA C aO => ?_
 have aP := (Below.size hB)
 replace hB := Ze hB C
 replace f := C.at f
 replace g := C.at g
 replace d := C.at d
 replace hxo := C.ow hxo
 replace hk4_2 := C.ow hk4_2
 replace hLO4_2 := LO.ext C hLO4_2
 replace i := C.at i
 obtain ⟨tv7_1, T7_1, rv7_1, bB, L7_1, rfl, ht7_1, hk7_1, hLO7_1, hrd7_1, aQ, hln7_1, hTl7_1⟩ := aO
 skip
 replace ht7_1 := dh.mono ht7_1 aP
 refine Zw (.tuple #[tv7_1, .agg #[.int .i64 _, rv7_1], .int .i64 0]) rfl <| Zv (mz rfl) <| Zv (sF rfl) <| Zv (sN rfl) <| Zy (dt ia rfl fun aR bC Z s l => ?_)
 have aS := ZO Z hB
 have aT := Zn Z i.lt
 clear Z
 replace hB := Ze hB s
 replace f := s.at f
 replace g := s.at g
 replace d := s.at d
 replace hxo := s.ow hxo
 replace hk4_2 := s.ow hk4_2
 replace hLO4_2 := LO.ext s hLO4_2
 replace i := s.at i
 replace ht7_1 := s.ow ht7_1
 replace hk7_1 := s.ow hk7_1
 replace hLO7_1 := LO.ext s hLO7_1
 refine Zw tv7_1 rfl <| Zy (dg rfl rfl dH rfl l rfl (by exact ib (dh.one hk7_1)) fun bD t aU => ?_)
 replace hB := Zg hB t aS
 replace f := At.grownAt f l t Dd
 replace g := At.grownAt g l t Dd
 replace d := At.grownAt d l t Dd
 replace hxo := dh.grownAt hxo l t Dd
 replace hk4_2 := dh.grownAt hk4_2 l t Dd
 replace hLO4_2 := LO.grownAt hLO4_2 l t Dd
 replace i := At.grownNe i aT t
 replace ht7_1 := dh.grownAt ht7_1 l t Dd
 replace hk7_1 := dh.grownAt hk7_1 l t Dd
 replace hLO7_1 := LO.grownAt hLO7_1 l t Dd
 replace l := aU
 refine Zw (.int .i64 0) rfl <| cT <| Zr <| Zv (db rfl dH rfl l) <| Zf rfl qf <| Zl rfl dB g rfl <| ZC (vs := [.agg #[_, _], .int .i64 _]) NM (t6 _ _ _ L7_1 (T : Int) _ (dh.mono hk7_1 (Nat.zero_le _)) (LO.mono hLO7_1 (Nat.zero_le _)) aQ Om (F5 hr hl4 hrd7_1) Om) rfl fun bE bF q aV => ?_
 have bG := dh.lt2 ht7_1
 have aW := (Below.size hB)
 replace hB := Ze hB q
 replace f := q.at f
 replace g := q.at g
 replace d := q.at d
 replace hxo := q.ow hxo
 replace hk4_2 := q.ow hk4_2
 replace hLO4_2 := LO.ext q hLO4_2
 replace i := q.at i
 replace ht7_1 := q.ow ht7_1
 replace hk7_1 := q.ow hk7_1
 replace hLO7_1 := LO.ext q hLO7_1
 replace l := q.at l
 obtain ⟨tv8_3, X8_3, s8_3, e8_3, rfl, ht8_3, hXl8_3, aX, hsb8_3, hfw8_3, hto8_3⟩ := Fo aV (Int.natCast_nonneg _)
 replace ht8_3 := dh.mono ht8_3 aW
 refine Zw (.tuple #[tv8_3, .int .i64 s8_3, .int .i64 e8_3]) rfl <| Zv (mz rfl) <| Zv (sF rfl) <| Zv (sN rfl) <| Zw tv8_3 rfl <| Zw (.int .i64 s8_3) rfl <| Zw (.int .i64 e8_3) rfl <| cT <| cY fun bH aY => Zr <| Zw (.int .i64 e8_3) rfl <| Zv (f7 rfl rfl) <| cT <| ZQ rfl (fun M => ?_) fun M => ?_
 refine Zr <| Zv (jg ) <| Zw (.int .i64 e8_3) rfl <| Zy (dg rfl rfl fi rfl d rfl rfl fun bI A aZ => ?_)
 replace hB := Zg hB A V
 replace f := At.grownAt f d A Dd
 replace g := At.grownAt g d A Dd
 replace hxo := dh.grownAt hxo d A Dd
 replace hk4_2 := dh.grownAt hk4_2 d A Dd
 replace i := At.grownAt i d A Dd
 replace ht7_1 := dh.grownAt ht7_1 d A Dd
 replace hk7_1 := dh.grownAt hk7_1 d A Dd
 replace l := At.grownAt l d A Dd
 replace ht8_3 := dh.grownAt ht8_3 d A Dd
 clear hLO4_2 hLO7_1
 replace d := aZ
 refine Zw (.int .i64 e8_3) rfl <| cT <| Zt <| fw rfl fi d rfl (v1 := .int .i64 e8_3) rfl ⟨hB, ?_⟩
 exact ⟨_, _, _, _, _, rfl, dh.nil, .inr (.inr ⟨(hto8_3 M).1, he0 ▸ hno1_3, L7_1, T7_1, hrd7_1, by have := (hto8_3 M).2; rwa [Int.toNat_natCast] at this⟩)⟩
 refine c9 <| aY _ _ <| Zr <| Zy (gE (enc := eK) (encV := Value.bool) fun N bJ au p G => ?_)
 have a0 := ZO au hB
 clear au
 replace hB := Ze hB p
 replace f := p.at f
 replace g := p.at g
 replace d := p.at d
 replace hxo := p.ow hxo
 replace hk4_2 := p.ow hk4_2
 replace hLO4_2 := LO.ext p hLO4_2
 replace i := p.at i
 replace ht7_1 := p.ow ht7_1
 replace hk7_1 := p.ow hk7_1
 replace hLO7_1 := LO.ext p hLO7_1
 replace l := p.at l
 replace ht8_3 := p.ow ht8_3
 replace G : dR eK Value.bool _ _ (ft []) := G
 refine Zw (.map (some N)) rfl <| cT <| cY fun bK a1 => Zr <| Zw tv7_1 rfl <| Zw tv8_3 rfl <| Zy (ez (v := tv7_1) (v2 := tv8_3) rfl rfl du fv Dd ht7_1 ht8_3.sl (ku) (by have := Below.size hB; omega) Om Om fun aa bL B o => ?_)
 replace o := dh.app (enc := d9) rfl rfl rfl rfl o
 replace hB := ZG hB B ht7_1
 replace f := At.grownOw f ht7_1 B Dd
 replace g := At.grownOw g ht7_1 B Dd
 replace d := At.grownOw d ht7_1 B Dd
 replace hxo := dh.grownOw hxo ht7_1 B Dd
 replace hk4_2 := dh.grownOw hk4_2 ht7_1 B Dd
 replace i := At.grownOw i ht7_1 B Dd
 replace hk7_1 := dh.grownOw hk7_1 ht7_1 B Dd
 replace l := At.grownOw l ht7_1 B Dd
 replace G := dR.grownOw G ht7_1 B
 clear hLO4_2 hLO7_1 ht8_3 ht7_1
 refine Zv (dA (v := aa) rfl o.sl du) <| Zw (.int .i64 0) rfl <| cT <| c7 ?_
 refine dw (σ := (Nat)) [16, 64, 65, 66, 67, 68, 69, 70] (fun j => [(64, .int .i64 (j : Int))]) (fun j W => (Below w.heap.size w W) ∧ (At W aB _ 24) ∧ (At W aD _ 26) ∧ (At W al _ 32) ∧ (dh gv 3 42 W w.heap.size x1_3 _) ∧ (dh encV 1 80 W 0 rv4_2 _) ∧ (At W aK _ 77) ∧ (dh encV 1 80 W 0 rv7_1 _) ∧ (At W aR _ 77) ∧ (dh d9 1 3 W w.heap.size aa _) ∧ (dR eK Value.bool W N (ft (o4 [] (T7_1 ++ X8_3) j))) ∧ (j ≤ (T7_1 ++ X8_3).length) ∧ (True)) (fun j => (T7_1 ++ X8_3).length - j) (0) ⟨rfl, trivial⟩ ⟨hB, f, g, d, hxo, hk4_2, i, hk7_1, l, o, G, (Nat.zero_le _), trivial⟩ ?_
 clear hB f g d hxo hk4_2 i hk7_1 l G o
 rintro j bM I ⟨hB, f, g, d, hxo, hk4_2, i, hk7_1, l, o, hmk, hj, _⟩ bN a2
 have hcl : (T7_1 ++ X8_3).length ≤ 16000 := by rw [List.length_append]; omega
 refine Zr <| Zv (dL rfl rfl) <| cT <| cY fun bO a3 => ZQ rfl (fun a4 => ?_) fun a4 => ?_
 refine c9 <| a3 _ _ <| cY fun bP a5 => c7 <| Zr <| Zv (dJ (v := aa) rfl o.sl rfl du Om Om) <| Zv (dk (v := .int .i64 _) rfl dB (dM.cell o.sl eD 0 Om Om 0 rfl)) <| Zi rfl <| cT <| cZ <| Zw (.map (some N)) rfl <| Zi rfl ?_
 refine gS (dd := none) rfl rfl rfl (fI (enc := eK) (encV := Value.bool) (k := ((T7_1 ++ X8_3).getD j 0)) (v := true) rfl rfl rfl na gI (fun a => ⟨a, rfl⟩) fS hmk (fun bQ y a6 => ?_))
 replace hB := Zg hB y a0
 replace f := At.grownMap f hmk y
 replace g := At.grownMap g hmk y
 replace d := At.grownMap d hmk y
 replace hxo := dh.grownMap hxo hmk y
 replace hk4_2 := dh.grownMap hk4_2 hmk y
 replace i := At.grownMap i hmk y
 replace hk7_1 := dh.grownMap hk7_1 hmk y
 replace l := At.grownMap l hmk y
 replace o := dh.grownMap o hmk y
 clear y hmk
 replace hmk := a6
 rw [jj] at hmk
 refine cT <| a5 _ _ <| cZ <| Zv (dp rfl rfl Om Om) <| Zi rfl <| cT ?_
 exact a2 _ _ (j + 1) Za ⟨rfl, trivial⟩ ⟨hB, f, g, d, hxo, hk4_2, i, hk7_1, l, o, (by exact hmk), Om, trivial⟩ Zo
 refine dr <| a1 _ _ ?_
 have a7 := Below.slT hB hon
 have a8 := Below.slT hB hmay
 have ab := hB
 replace hB := Below.refl I.heap.size I
 obtain rfl : j = (T7_1 ++ X8_3).length := by omega
 refine Zr <| Zw (.int .i64 s8_3) rfl <| Zv (wM (h0 := rfl) (k0 := rfl) (h1 := rfl) (k1 := rfl) (c0_0 := .int .i64 1) (c1_0 := .int .i64 s8_3)) <| Zy (dt mL rfl fun av bR ac a9 m => ?_)
 have O := ZO ac hB
 have ba : al ≠ av := Nat.ne_of_lt (ac ▸ (Below.atI hB d).lt)
 clear ac
 replace hB := Ze hB a9
 refine Zy (dg rfl rfl fi rfl m rfl rfl fun bS bb bc => ?_)
 replace hB := Zg hB bb O
 replace m := bc
 refine cT <| cY fun bT bd => Zr <| Zw x1_3 rfl <| Zv (dA (v := x1_3) rfl ((Below.ow hB hxo)).sl dT) <| Zw (.int .i64 0) rfl <| cT <| c7 ?_
 refine dw (σ := (Nat) × (Value)) [18, 19, 75, 76, 77, 78, 79, 80, 81, 82, 83, 84, 85, 86, 87, 88, 89] (fun (k, v0) => [(75, .int .i64 (k : Int))]) (fun sg W => match sg with | (k, v0) => (Below I.heap.size I W) ∧ (At W av #[v0, .int .i64 1, .int .i64 0, .int .i64 s8_3] 32) ∧ (dh gv 3 42 W I.heap.size v0 (wO (eR S) (o4 [] (T7_1 ++ X8_3) (T7_1 ++ X8_3).length) k)) ∧ (k ≤ (eR S).length) ∧ (True)) (fun (k, v0) => (eR S).length - k) ((0, .slice none 0 0)) ⟨rfl, trivial⟩ ⟨hB, m, dh.nil, (Nat.zero_le _), trivial⟩ ?_
 clear hB m
 rintro ⟨k, v0⟩ bU bV ⟨hB, m, ho, hk, _⟩ bW aw
 refine Zr <| Zv (dL rfl rfl) <| cT <| cY fun bX bf => ZQ rfl (fun bg => ?_) fun bg => ?_
 refine c9 <| bf _ _ <| cY fun bY ax => c7 <| Zr <| Zi rfl <| Zv (dJ (v := x1_3) rfl ((Below.ow hB hxo)).sl rfl dT Om Om) <| Zv (k8 rfl eA (dM.cell ((Below.ow hB hxo)).sl ej ⟨⟨0, 0⟩, 0⟩ Om Om 0 rfl) (dM.cell ((Below.ow hB hxo)).sl ej ⟨⟨0, 0⟩, 0⟩ Om Om 1 rfl) (dM.cell ((Below.ow hB hxo)).sl ej ⟨⟨0, 0⟩, 0⟩ Om Om 2 rfl)) <| Zy (dt kP rfl fun ay bZ P ad z => ?_)
 have bh := ZO P hB
 have b0 := dh.neB (b := ay) (Below.ow hB hxo) (Nat.le_of_eq P.symm)
 have az := dh.neB (b := ay) ho (Nat.le_of_eq P.symm)
 clear P
 replace hB := Ze hB ad
 replace m := ad.at m
 replace ho := ad.ow ho
 refine Zi rfl <| Zy (dg rfl rfl eA rfl z rfl rfl fun b1 ae bi => ?_)
 replace hB := Zg hB ae bh
 replace m := At.grownAt m z ae Dd
 replace ho := dh.grownAtNe ho az ae
 replace z := bi
 refine cT <| Zr <| Zw (.map (some N)) rfl <| Zi rfl <| Zv (fR (enc := eK) (encV := Value.bool) (v0 := false) (k := _) rfl rfl na gI (fun a => ⟨a, rfl⟩) fS oN rfl (Below.mapI hB hmk)) <| cT <| ZQ rfl (fun J => ?_) fun J => ?_
 refine cZ <| Zf rfl nW <| ZL v0 rfl lS m rfl <| Zv (db rfl eA rfl z) <| Zy (fc (u := .agg #[_, _, _]) rfl dT iu rfl Dd Dd fun af b2 K Q bj => ?_)
 have b3 := ZO K hB
 have b4 := dh.neB (b := af) (Below.ow hB hxo) (Nat.le_of_eq K.symm)
 have b5 := dh.neB (b := af) ho (Nat.le_of_eq K.symm)
 have b6 := Zn K z.lt
 clear K
 replace hB := Ze hB Q
 replace m := Q.at m
 replace ho := Q.ow ho
 replace z := Q.at z
 refine Zy (ez (v := v0) (v2 := .slice (some ⟨af, 0, none⟩) 1 1) rfl rfl dT iu Dd ho (fG bj rfl) rfl (by have := Below.size hB; omega) (by have := DQ (eR S) (o4 [] (T7_1 ++ X8_3) (T7_1 ++ X8_3).length) k; omega) (by have := DQ (eR S) (o4 [] (T7_1 ++ X8_3) (T7_1 ++ X8_3).length) k; omega) fun aA b7 ag F => ?_)
 replace F := dh.snoc (enc := gv) (x := ((eR S).getD k ⟨⟨0, 0⟩, 0⟩)) rfl rfl rfl rfl F
 replace hB := ZG hB ag ho
 replace m := At.grownOw m ho ag Dd
 replace z := At.grownOwNe z az ag
 clear ho
 refine Zf rfl nW <| Zy (eC (v := aA) rfl rfl lS (dM.one F.sl) m (by simp) fun b8 ah bk => ?_)
 replace hB := Zg hB ah O
 replace z := At.grownAt z m ah Dd
 replace F := dh.grownAt F m ah Dd
 replace m := bk
 replace m : At _ _ #[_, _, _, _] _ := m
 refine cT <| ax _ _ <| cZ <| Zv (dp rfl rfl Om Om) <| Zi rfl <| cT ?_
 exact aw _ _ ((k + 1, aA)) Za ⟨rfl, trivial⟩ ⟨hB, (by exact m), (by first | (rw [← Mv (nh J)]; exact F) | (rw [← Mw (lj J)]; exact F)), Om, trivial⟩ (by show (eR S).length - (k + 1) < (eR S).length - k; omega)
 refine c9 <| ax _ _ <| cZ <| Zv (dp rfl rfl Om Om) <| Zi rfl <| cT ?_
 exact aw _ _ ((k + 1, v0)) Za ⟨rfl, trivial⟩ ⟨hB, (by exact m), (by first | (rw [← Mv (nh J)]; exact ho) | (rw [← Mw (lj J)]; exact ho)), Om, trivial⟩ (by show (eR S).length - (k + 1) < (eR S).length - k; omega)
 refine dr <| bd _ _ ?_
 try clear a7
 try clear a8
 replace f := Below.atI hB f
 replace g := Below.atI hB g
 replace d := Below.atI hB d
 replace hxo := Below.ow hB hxo
 replace hk4_2 := Below.ow hB hk4_2
 replace i := Below.atI hB i
 replace hk7_1 := Below.ow hB hk7_1
 replace l := Below.atI hB l
 replace o := Below.ow hB o
 replace hmk := Below.mapI hB hmk
 have hzs := Nat.le_trans (Nat.le_refl _) (Below.size ab)
 replace O := Nat.le_trans hzs O
 replace ho := dh.mono ho hzs
 replace hB := Below.trans ab (Below.mono hB hzs)
 clear ab hzs
 obtain rfl : k = (eR S).length := by omega
 refine Zr <| Zv (db rfl fi rfl m) <| Zy (dg rfl rfl fi rfl d rfl (by exact oH (dh.one ho)) fun b9 r bl => ?_)
 replace f := At.grownAt f d r Dd
 replace g := At.grownAt g d r Dd
 replace hxo := dh.grownAt hxo d r Dd
 replace hk4_2 := dh.grownAt hk4_2 d r Dd
 replace i := At.grownAt i d r Dd
 replace hk7_1 := dh.grownAt hk7_1 d r Dd
 replace l := At.grownAt l d r Dd
 replace o := dh.grownAt o d r Dd
 replace hmk := dR.grownAt hmk d r
 replace hB := Zg hB r V
 replace m := At.grownNe m (Ne.symm ba) r
 replace ho := dh.grownAt ho d r Dd
 replace d := bl
 refine Zw (.int .i64 0) rfl <| cT <| Zt <| fw rfl fi d rfl (v1 := .int .i64 0) rfl ⟨hB, ?_⟩
 exact ⟨_, _, _, _, _, rfl, ho, .inl ⟨rfl, rfl, aX, hsb8_3, he0 ▸ hno1_3, L7 hr hl4 hrd7_1 (hfw8_3 (Decidable.of_not_not M)) (fun c => M4) (wA List.nodup_nil _)⟩⟩
theorem mI (S : Sp) (onV mayV : Value) (p q : Int) (bs be : Nat) (w : World) (hon : dM gp 4 w onV S.on) (hmay : dM gp 4 w mayV S.may) (hr : dP S = true) (hsp : At w bs #[.int .i64 S.n, onV, mayV] 24) (hbe : At w be #[.int .i64 q] 30) :
    Fn Tryz.prog 20 #[.int .i64 p, .pointer (some ⟨bs, 0, none⟩), .pointer (some ⟨be, 0, none⟩)] w fun v w' => ∃ x, v = .tuple #[.agg #[x, .int .i64 2, .int .i64 q, .int .i64 p], .int .i64 0] ∧ dh gv 3 42 w' w.heap.size x (xv S (kS S)) := by
 refine dq (n := 26) Tryz.func20 rfl rfl (Nat.le_of_ble_eq_true rfl) ?_
 have hB : Below w.heap.size w w := Below.refl _ _
 refine Zr <| Zy (dt mL rfl fun m W3 d h a => ?_)
 have i := ZO d hB
 clear d
 replace hB := Ze hB h
 refine Zw (.int .i64 0) rfl <| cT <| Zr <| Zv (db rfl eV rfl (Below.atI hB hsp)) <| ZC (vs := [.agg #[_, _, _]]) M3 (yV S _ _  _ (Below.slT hB hon) (Below.slT hB hmay) ) rfl fun o W8 e f => ?_
 have j := (Below.size hB)
 replace hB := Ze hB e
 replace a := e.at a
 rw [if_pos hr] at f
 obtain ⟨xpl, rfl, hpl⟩ := f
 replace hpl := dh.mono hpl j
 refine Zw (.tuple #[xpl, .int .i64 0]) rfl <| Zv (dI rfl) <| Zv (dK rfl) <| Zw xpl rfl <| Zw (.int .i64 0) rfl <| cT <| Zr <| Zv (db rfl eV rfl (Below.atI hB hsp)) <| Zw xpl rfl <| ZC (vs := [.agg #[_, _, _], xpl]) NB (BB S _ _ _ (kS S) _ (Below.slT hB hon) (Below.slT hB hmay) hpl.sl (by have := Gd hr; omega) (Lt hr) (by have := (d7.1 hr); omega)) rfl fun r s b g => ?_
 have t := dh.lt2 hpl
 have k := (Below.size hB)
 replace hB := Ze hB b
 replace a := b.at a
 replace hpl := b.ow hpl
 rw [if_pos (FA hr)] at g
 obtain ⟨xtn, rfl, htn⟩ := g
 replace htn := dh.mono htn k
 refine Zw (.tuple #[xtn, .int .i64 0]) rfl <| Zv (dI rfl) <| Zv (dK rfl) <| Zw xtn rfl <| Zw (.int .i64 0) rfl <| cT <| Zr <| Zw xtn rfl <| Zl rfl jL (Below.atI hB hbe) rfl <| Zi rfl <| Zv (rj (h0 := rfl) (k0 := dM.cells htn.sl) (h1 := rfl) (k1 := rfl) (h2 := rfl) (k2 := rfl) (h3 := rfl) (k3 := rfl) (c0_0 := xtn) (c1_0 := .int .i64 2) (c2_0 := .int .i64 _) (c3_0 := .int .i64 _)) <| Zw (.int .i64 0) rfl <| Zy (dg rfl rfl fi rfl a rfl (by exact oH (dh.one htn)) fun u c l => ?_)
 replace hB := Zg hB c i
 replace hpl := dh.grownAt hpl a c Dd
 replace htn := dh.grownAt htn a c Dd
 replace a := l
 refine Zw (.int .i64 0) rfl <| cT <| Zt <| fw rfl fi a rfl (v1 := .int .i64 0) rfl ⟨hB, ?_⟩
 exact ⟨_, rfl, htn⟩
theorem kQ (S : Sp) (onV mayV : Value) (b0 b1 : Int) (w : World) (hon : dM gp 4 w onV S.on) (hmay : dM gp 4 w mayV S.may) (hs : dP S = true → S.n ≤ 4 ∧ S.on.length ≤ 3) :
    Fn Tryz.prog 9 #[.agg #[.int .i64 S.n, onV, mayV], .agg #[.int .i64 b0, .int .i64 b1]] w fun v w' => if dP S = true ∧ px b0 b1 then ∃ x how why sp Rr, v = .tuple #[.agg #[x, .int .i64 how, .int .i64 why, .int .i64 sp], .int .i64 0] ∧ dh gv 3 42 w' w.heap.size x Rr ∧ Oe b0.toNat b1.toNat S how why sp Rr else v = .tuple #[.agg #[.slice none 0 0, .int .i64 0, .int .i64 0, .int .i64 0], .int .i64 1] := by
 refine dq (n := 56) Tryz.func9 rfl rfl (Nat.le_of_ble_eq_true rfl) ?_
 have hB : Below w.heap.size w w := Below.refl _ _
 refine Zr <| Zy (dU (c := #[_, _, _]) rfl rfl fun m W3 Q Y b => ?_)
 have aC := ZO Q hB
 clear Q
 replace hB := Ze hB Y
 refine Zy (dU (c := #[_, _]) rfl rfl fun aD W6 U V d => ?_)
 have aE := ZO U hB
 clear U
 replace hB := Ze hB V
 replace b := V.at b
 refine Zy (dt mL rfl fun aF W9 W G a => ?_)
 have o := ZO W hB
 clear W
 replace hB := Ze hB G
 replace b := G.at b
 replace d := G.at d
 refine Zw (.int .i64 0) rfl <| cT <| cY fun aG Z => Zr <| Zv (db rfl eV rfl b) <| ZC (vs := [.agg #[_, _, _]]) q5 (iN S _ _  _ (Below.slT hB hon) (Below.slT hB hmay) ) rfl fun aH aI D aa => ?_
 replace hB := Ze hB D
 replace b := D.at b
 replace d := D.at d
 replace a := D.at a
 obtain rfl := aa
 refine Zv (fy rfl) <| ZX rfl (fun H => ?_) fun H => ?_
 refine Zs <| Zs <| Zs <| Zw (.bool true) rfl <| Zw (.bool true) rfl <| Zs <| Zs <| Zs <| Zw (.bool true) rfl <| Zw (.bool true) rfl <| Zs <| Zs <| Zs <| Zw (.bool true) rfl ?_
 refine Zw (.bool true) rfl <| Zs <| Zs <| Zs <| Zw (.bool true) rfl <| cT <| dz rfl ?_
 have hno : ¬ (dP S = true ∧ px b0 b1) := fun h => by rw [jc H] at h; exact Bool.noConfusion h.1
 refine Zr <| Zv (jg ) <| Zy (dg rfl rfl fi rfl a rfl rfl fun aJ I ab => ?_)
 replace hB := Zg hB I o
 replace b := At.grownAt b a I Dd
 replace d := At.grownAt d a I Dd
 replace a := ab
 refine Zw (.int .i64 1) rfl <| cT <| Zt <| fw rfl fi a rfl (v1 := .int .i64 1) rfl ⟨hB, ?_⟩
 first | rw [if_neg hno] | (rw [if_pos ⟨hr, hm⟩]; first | exact ⟨_, _, _, _, _, rfl, k, BE hfo3_2 i⟩ | exact ⟨_, _, _, _, _, rfl, l, tY hfo3_2 j i⟩ | exact ⟨_, _, _, _, _, rfl, e, Bx hfo3_2 j⟩)
 refine Zf rfl te <| Zl rfl dB d rfl <| Zv (dL rfl rfl) <| Zb rfl <| ZX rfl (fun ac => ?_) fun ac => ?_
 refine Zs <| Zs <| Zs <| Zw (.bool true) rfl <| Zw (.bool true) rfl <| Zs <| Zs <| Zs <| Zw (.bool true) rfl <| Zw (.bool true) rfl <| Zs <| Zs <| Zs <| Zw (.bool true) rfl ?_
 refine cT <| dz rfl ?_
 have hno : ¬ (dP S = true ∧ px b0 b1) := fun h => by have := h.2; unfold px at this; omega
 refine Zr <| Zv (jg ) <| Zy (dg rfl rfl fi rfl a rfl rfl fun aK J ad => ?_)
 replace hB := Zg hB J o
 replace b := At.grownAt b a J Dd
 replace d := At.grownAt d a J Dd
 replace a := ad
 refine Zw (.int .i64 1) rfl <| cT <| Zt <| fw rfl fi a rfl (v1 := .int .i64 1) rfl ⟨hB, ?_⟩
 first | rw [if_neg hno] | (rw [if_pos ⟨hr, hm⟩]; first | exact ⟨_, _, _, _, _, rfl, k, BE hfo3_2 i⟩ | exact ⟨_, _, _, _, _, rfl, l, tY hfo3_2 j i⟩ | exact ⟨_, _, _, _, _, rfl, e, Bx hfo3_2 j⟩)
 refine Zf rfl te <| Zl rfl dB d rfl <| Zv (iQ rfl rfl) <| Zb rfl <| ZX rfl (fun ae => ?_) fun ae => ?_
 refine Zs <| Zs <| Zs <| Zw (.bool true) rfl <| Zw (.bool true) rfl <| Zs <| Zs <| Zs <| Zw (.bool true) rfl <| cT <| dz rfl ?_
 have hno : ¬ (dP S = true ∧ px b0 b1) := fun h => by have := h.2; unfold px at this; omega
 refine Zr <| Zv (jg ) <| Zy (dg rfl rfl fi rfl a rfl rfl fun aL K af => ?_)
 replace hB := Zg hB K o
 replace b := At.grownAt b a K Dd
 replace d := At.grownAt d a K Dd
 replace a := af
 refine Zw (.int .i64 1) rfl <| cT <| Zt <| fw rfl fi a rfl (v1 := .int .i64 1) rfl ⟨hB, ?_⟩
 first | rw [if_neg hno] | (rw [if_pos ⟨hr, hm⟩]; first | exact ⟨_, _, _, _, _, rfl, k, BE hfo3_2 i⟩ | exact ⟨_, _, _, _, _, rfl, l, tY hfo3_2 j i⟩ | exact ⟨_, _, _, _, _, rfl, e, Bx hfo3_2 j⟩)
 refine Zf rfl qf <| Zl rfl dB d rfl <| Zv (dL rfl rfl) <| Zb rfl <| ZX rfl (fun ag => ?_) fun ag => ?_
 refine Zs <| Zs <| Zs <| Zw (.bool true) rfl <| cT <| dz rfl ?_
 have hno : ¬ (dP S = true ∧ px b0 b1) := fun h => by have := h.2; unfold px at this; omega
 refine Zr <| Zv (jg ) <| Zy (dg rfl rfl fi rfl a rfl rfl fun aM L ah => ?_)
 replace hB := Zg hB L o
 replace b := At.grownAt b a L Dd
 replace d := At.grownAt d a L Dd
 replace a := ah
 refine Zw (.int .i64 1) rfl <| cT <| Zt <| fw rfl fi a rfl (v1 := .int .i64 1) rfl ⟨hB, ?_⟩
 first | rw [if_neg hno] | (rw [if_pos ⟨hr, hm⟩]; first | exact ⟨_, _, _, _, _, rfl, k, BE hfo3_2 i⟩ | exact ⟨_, _, _, _, _, rfl, l, tY hfo3_2 j i⟩ | exact ⟨_, _, _, _, _, rfl, e, Bx hfo3_2 j⟩)
 refine Zf rfl qf <| Zl rfl dB d rfl <| Zv (iQ rfl rfl) <| Zb rfl <| cT <| ZQ rfl (fun ai => ?_) fun ai => ?_
 have hno : ¬ (dP S = true ∧ px b0 b1) := fun h => by have := h.2; unfold px at this; omega
 refine Zr <| Zv (jg ) <| Zy (dg rfl rfl fi rfl a rfl rfl fun aN M aj => ?_)
 replace hB := Zg hB M o
 replace b := At.grownAt b a M Dd
 replace d := At.grownAt d a M Dd
 replace a := aj
 refine Zw (.int .i64 1) rfl <| cT <| Zt <| fw rfl fi a rfl (v1 := .int .i64 1) rfl ⟨hB, ?_⟩
 first | rw [if_neg hno] | (rw [if_pos ⟨hr, hm⟩]; first | exact ⟨_, _, _, _, _, rfl, k, BE hfo3_2 i⟩ | exact ⟨_, _, _, _, _, rfl, l, tY hfo3_2 j i⟩ | exact ⟨_, _, _, _, _, rfl, e, Bx hfo3_2 j⟩)
 refine c9 <| Z _ _ ?_
 have hr : dP S = true := ie H
 have hm : px b0 b1 := ⟨⟨by omega, by omega⟩, by omega, by omega⟩
 obtain ⟨R, T, rfl, rfl, hbd⟩ := MW hm
 refine Zr <| Zv (db rfl eV rfl b) <| Zv (db rfl Kb rfl d) <| ZC (vs := [.agg #[_, _, _], .agg #[_, _]]) Ns (wo S _ _ R T _ (Below.slT hB hon) (Below.slT hB hmay) hr hbd.2.1 hbd.2.2 (hs hr).1 (hs hr).2) rfl fun aO aP E ak => ?_
 have al := (Below.size hB)
 replace hB := Ze hB E
 replace b := E.at b
 replace d := E.at d
 replace a := E.at a
 obtain ⟨x3_2, how3_2, sp3_2, e3_2, Rr3_2, rfl, e, hfo3_2⟩ := ak
 replace e := dh.mono e al
 refine Zw (.tuple #[.agg #[x3_2, .int .i64 how3_2, .int .i64 0, .int .i64 sp3_2], .int .i64 e3_2]) rfl <| Zv (dI rfl) <| Zv (dK rfl) <| Zy (dt mL rfl fun aQ aR N C g => ?_)
 have ao := ZO N hB
 have F := Zn N a.lt
 clear N
 replace hB := Ze hB C
 replace b := C.at b
 replace d := C.at d
 replace a := C.at a
 replace e := C.ow e
 refine Zy (dt OP rfl fun p aS X y f => ?_)
 have ap := ZO X hB
 clear X
 replace hB := Ze hB y
 replace b := y.at b
 replace d := y.at d
 replace a := y.at a
 replace e := y.ow e
 replace g := y.at g
 refine Zy (dg rfl rfl fi rfl g rfl (by exact oH (dh.one e)) fun aT z aq => ?_)
 replace hB := Zg hB z ao
 replace b := At.grownAt b g z Dd
 replace d := At.grownAt d g z Dd
 replace a := At.grownNe a F z
 replace e := dh.grownAt e g z Dd
 replace f := At.grownAt f g z Dd
 replace g := aq
 refine Zy (eC (v := .int .i64 e3_2) rfl rfl jL rfl f (by exact Nat.zero_lt_one) fun aU A ar => ?_)
 replace hB := Zg hB A ap
 replace b := At.grownAt b f A Dd
 replace d := At.grownAt d f A Dd
 replace a := At.grownAt a f A Dd
 replace e := dh.grownAt e f A Dd
 replace g := At.grownAt g f A Dd
 replace f := ar
 replace f : At _ _ #[_] _ := f
 refine cT <| Zr <| Zv (gV (vs := #[.pointer (some ⟨m, 0, none⟩), .pointer (some ⟨p, 0, none⟩)]) (by simp only [List.map_toArray, List.map_cons, List.map_nil]; rfl)) <| Zw (.func (.func 20) #[] #[.pointer (some ⟨m, 0, none⟩), .pointer (some ⟨p, 0, none⟩)]) rfl <| cT <| cY fun aV au => Zr <| ZL (.int .i64 e3_2) rfl jL f rfl <| cT <| c7 <| Zr <| Zv (eB rfl rfl) <| Zb rfl <| cT ?_
 refine ZQ rfl (fun j => ?_) fun j => ?_
 refine Zr <| Zv (db rfl fi rfl g) <| Zy (dg rfl rfl fi rfl a rfl (by exact oH (dh.one e)) fun aW B av => ?_)
 replace hB := Zg hB B o
 replace b := At.grownAt b a B Dd
 replace d := At.grownAt d a B Dd
 replace e := dh.grownAt e a B Dd
 replace g := At.grownNe g (Ne.symm F) B
 replace f := At.grownAt f a B Dd
 replace a := av
 refine Zw (.int .i64 0) rfl <| cT <| Zt <| fw rfl fi a rfl (v1 := .int .i64 0) rfl ⟨hB, ?_⟩
 first | rw [if_neg hno] | (rw [if_pos ⟨hr, hm⟩]; first | exact ⟨_, _, _, _, _, rfl, k, BE hfo3_2 i⟩ | exact ⟨_, _, _, _, _, rfl, l, tY hfo3_2 j i⟩ | exact ⟨_, _, _, _, _, rfl, e, Bx hfo3_2 j⟩)
 refine Zr <| Zv (eB rfl rfl) <| Zb rfl <| cT <| ZQ rfl (fun i => ?_) fun i => ?_
 have O := Below.slT hB hon
 have P := Below.slT hB hmay
 refine Zr <| Zw (.func (.func 20) #[] #[.pointer (some ⟨m, 0, none⟩), .pointer (some ⟨p, 0, none⟩)]) rfl <| Zf rfl qf <| Zl rfl dB d rfl ?_
 refine qp (dd := some 49) rfl rfl rfl (jV (q := 20) (first := #[]) (cap := #[.pointer (some ⟨m, 0, none⟩), .pointer (some ⟨p, 0, none⟩)]) (vs := #[.int .i64 _, .pointer (some ⟨m, 0, none⟩), .pointer (some ⟨p, 0, none⟩)]) rfl IL (by simp only [List.map_toArray, List.map_cons, List.map_nil, List.append_toArray, List.nil_append, List.cons_append]; rfl)) (mI S _ _ _ _ _ _ _ O P hr b f) (fun aX aY r aw => ?_)
 have ax := (Below.size hB)
 replace hB := Ze hB r
 replace b := r.at b
 replace d := r.at d
 replace a := r.at a
 replace e := r.ow e
 replace g := r.at g
 replace f := r.at f
 obtain ⟨x9_3, rfl, k⟩ := aw
 replace k := dh.mono k ax
 refine Zv (dI rfl) <| Zv (dK rfl) <| Zy (dg rfl rfl fi rfl a rfl (by exact oH (dh.one k)) fun aZ s ay => ?_)
 replace hB := Zg hB s o
 replace b := At.grownAt b a s Dd
 replace d := At.grownAt d a s Dd
 replace e := dh.grownAt e a s Dd
 replace g := At.grownNe g (Ne.symm F) s
 replace f := At.grownAt f a s Dd
 replace k := dh.grownAt k a s Dd
 replace a := ay
 refine Zw (.int .i64 0) rfl <| cT <| Zt <| fw rfl fi a rfl (v1 := .int .i64 0) rfl ⟨hB, ?_⟩
 first | rw [if_neg hno] | (rw [if_pos ⟨hr, hm⟩]; first | exact ⟨_, _, _, _, _, rfl, k, BE hfo3_2 i⟩ | exact ⟨_, _, _, _, _, rfl, l, tY hfo3_2 j i⟩ | exact ⟨_, _, _, _, _, rfl, e, Bx hfo3_2 j⟩)
 refine c9 <| au _ _ ?_
 have O := Below.slT hB hon
 have P := Below.slT hB hmay
 refine Zr <| Zw (.func (.func 20) #[] #[.pointer (some ⟨m, 0, none⟩), .pointer (some ⟨p, 0, none⟩)]) rfl ?_
 refine qp (dd := some 53) rfl rfl rfl (jV (q := 20) (first := #[]) (cap := #[.pointer (some ⟨m, 0, none⟩), .pointer (some ⟨p, 0, none⟩)]) (vs := #[.int .i64 0, .pointer (some ⟨m, 0, none⟩), .pointer (some ⟨p, 0, none⟩)]) rfl IL (by simp only [List.map_toArray, List.map_cons, List.map_nil, List.append_toArray, List.nil_append, List.cons_append]; rfl)) (mI S _ _ _ _ _ _ _ O P hr b f) (fun a0 a1 t az => ?_)
 have aA := (Below.size hB)
 replace hB := Ze hB t
 replace b := t.at b
 replace d := t.at d
 replace a := t.at a
 replace e := t.ow e
 replace g := t.at g
 replace f := t.at f
 obtain ⟨x10_1, rfl, l⟩ := az
 replace l := dh.mono l aA
 refine Zv (dI rfl) <| Zv (dK rfl) <| Zy (dg rfl rfl fi rfl a rfl (by exact oH (dh.one l)) fun a2 u aB => ?_)
 replace hB := Zg hB u o
 replace b := At.grownAt b a u Dd
 replace d := At.grownAt d a u Dd
 replace e := dh.grownAt e a u Dd
 replace g := At.grownNe g (Ne.symm F) u
 replace f := At.grownAt f a u Dd
 replace l := dh.grownAt l a u Dd
 replace a := aB
 refine Zw (.int .i64 0) rfl <| cT <| Zt <| fw rfl fi a rfl (v1 := .int .i64 0) rfl ⟨hB, ?_⟩
 first | rw [if_neg hno] | (rw [if_pos ⟨hr, hm⟩]; first | exact ⟨_, _, _, _, _, rfl, k, BE hfo3_2 i⟩ | exact ⟨_, _, _, _, _, rfl, l, tY hfo3_2 j i⟩ | exact ⟨_, _, _, _, _, rfl, e, Bx hfo3_2 j⟩)
end
section
open Go Go.RowKit
section
variable {S : Sp}
theorem KE {R : Nat} {e : Int} (h : L6 R S e) (hb : (2 ^ S.may.length - 1) * bO S < R) : e = 0 := by
 obtain ⟨ns', id, h1, _, _⟩ := h
 obtain ⟨c, hc, s⟩ := h1.1.st
 exact (s.ok (by rw [List.length_nil]; omega)).1
theorem Qr : ∀ n m : Nat, n ≤ 3 → m ≤ 2 → (2 ^ m - 1) * (2 ^ m * (tC n + 2 * n * 3 ^ n) + 24 + rh (16 + m) * 3 ^ n + (16 + m) * 3 ^ n) < 20000 := by
 intro n m hn hm
 have hn' : n = 0 ∨ n = 1 ∨ n = 2 ∨ n = 3 := by omega
 have hm' : m = 0 ∨ m = 1 ∨ m = 2 := by omega
 rcases hn' with rfl | rfl | rfl | rfl <;> rcases hm' with rfl | rfl | rfl <;> decide +kernel
theorem NA (hn : S.n ≤ 3) (hm : S.may.length ≤ 2) : (2 ^ S.may.length - 1) * bO S < 20000 := Qr (nN S) S.may.length (by unfold nN; omega) hm
theorem Gr (hr : dP S = true) (hne : ∃ r, r ∈ eR S) {e : Int} (h : L6 0 S e) : ¬ e = 0 := fun he => by
 obtain ⟨ns', id, h1, h2, _⟩ := h
 obtain ⟨r, hr2⟩ := hne
 have hn : ns' = [] := List.eq_nil_of_length_eq_zero (by omega)
 have hM := h1.1.m he
 have hv := h1.1.v
 have hx : F0 S (2 ^ S.may.length) (Ae r) := (A5 hr).2 ⟨r, hr2, rfl⟩
 rw [← hM] at hx
 subst hn
 obtain ⟨o, o1, o2, y, _, e2⟩ := (A5 hr).2 ⟨r, hr2, rfl⟩
 rw [List.length_nil] at hv
 have h01 : id = 0 ∨ id = 1 := by omega
 rcases h01 with rfl | rfl
 ·exact Gm _ _ hx
 ·have hx' : Ae r ∈ dQ [] 1 := hx
  rw [mu] at hx'
  have := List.mem_singleton.1 hx'
  omega
theorem Lm (hl : (eR S).length ≤ 4000) {T : Nat} (h : M6 S T) : T + 1 < 2 ^ (eR S).length := by
 obtain ⟨L, ks, h1, h2⟩ := h
 have h3 := rG h1.sub
 have h4 := Qb (jS (S := S) hl)
 exact Nat.lt_of_lt_of_le h2 (Nat.pow_le_pow_right (by decide) (Nat.le_trans h3 h4))
end
def KQ : Sp := ⟨2, [14], [14]⟩
theorem pG : dP KQ = true := by decide +kernel
theorem wb : (eR KQ).length = 2 := by decide +kernel
theorem Lw : (xv KQ (kS KQ)).length = 2 := by decide +kernel
theorem OM : ju KQ (eR KQ) = true := Ew pG
theorem JB : ju KQ [] = false ∧ ju KQ [(eR KQ).getD 0 ⟨⟨0, 0⟩, 0⟩] = false ∧ ju KQ [(eR KQ).getD 1 ⟨⟨0, 0⟩, 0⟩] = false := by decide +kernel
theorem N2 {Rr : List Rw} (h : L5 KQ Rr) : Rr.length = 2 := by
 have h1 := h.min _ OM
 rw [wb] at h1
 have hc := h.cov
 have hs := h.sub
 match Rr, h1, hc, hs with
 | [], _, hc, _ => rw [JB.1] at hc; cases hc
 | [r], _, hc, hs =>
  have hm : r ∈ eR KQ := hs.subset (List.mem_singleton.2 rfl)
  obtain ⟨j, hj, rfl⟩ := fo (d := (⟨⟨0, 0⟩, 0⟩ : Rw)) hm
  rw [wb] at hj
  have : j = 0 ∨ j = 1 := by omega
  rcases this with rfl | rfl
  ·rw [JB.2.1] at hc; cases hc
  ·rw [JB.2.2] at hc; cases hc
 | [_, _], _, _, _ => rfl
 | _ :: _ :: _ :: _, h1, _, _ => simp only [List.length_cons] at h1; omega
theorem QE {how why sp : Int} {Rr : List Rw} (h : Oe 20000 1000000 KQ how why sp Rr) : how = 1 ∧ why = 0 ∧ Rr.length = 2 := by
 rcases h with ⟨h1, h2, _, _, _, h3⟩ | ⟨_, _, ⟨_, _, h⟩ | ⟨_, _, _, h⟩⟩
 ·exact ⟨h1, h2, N2 h3⟩
 ·exact absurd (KE h (NA (by decide) (by decide))) (by decide)
 ·have := Lm (by rw [wb]; decide) h
  rw [wb] at this
  omega
theorem Qy {how why sp : Int} {Rr : List Rw} (h : Oe 0 0 KQ how why sp Rr) : how = 2 ∧ why = 5 ∧ Rr.length = 2 := by
 have hne : ∃ r, r ∈ eR KQ := ⟨_, dS (d := (⟨⟨0, 0⟩, 0⟩ : Rw)) (i := 0) (by rw [wb]; decide)⟩
 rcases h with ⟨_, _, _, _, h, _⟩ | ⟨h1, h2, ⟨h3, _, _⟩ | ⟨_, _, h, _⟩⟩
 ·exact absurd rfl (Gr pG hne h)
 ·exact ⟨h1, h3, by rw [h2]; exact Lw⟩
 ·exact absurd rfl (Gr pG hne h)
def kz (S : Sp) : Bool := nq S || (dP S && (decide (4 < S.n) || decide (3 < S.on.length)))
section
variable {S : Sp} {b0 b1 : Int}
theorem Ec (h : nq S = true) : Value.bool true = .bool (kz S) := by unfold kz; rw [h]; rfl
theorem DW (h : nq S = false) (hr : dP S = true) (h4 : S.n > 4) : Value.bool true = .bool (kz S) := by unfold kz; rw [h, hr, decide_eq_true (show 4 < S.n from h4)]; rfl
theorem E0 (h : nq S = false) (hr : dP S = true) (h4 : ¬ S.n > 4) : Value.bool (decide ((S.on.length : Int) > 3)) = .bool (kz S) := by
 unfold kz
 rw [h, hr, decide_eq_false (show ¬ 4 < S.n from h4), Bool.false_or, Bool.true_and, Bool.false_or]
 congr 1
 rw [decide_eq_decide]; omega
theorem E4 (h : nq S = false) (hr : dP S = false) : Value.bool false = .bool (kz S) := by unfold kz; rw [h, hr]; rfl
end
theorem BF {S : Sp} (hr : dP S = true) (h : kz S = false) : S.n ≤ 4 ∧ S.on.length ≤ 3 := by
 unfold kz at h
 rw [hr, Bool.or_eq_false_iff, Bool.true_and, Bool.or_eq_false_iff, decide_eq_false_iff_not, decide_eq_false_iff_not] at h
 omega
theorem Kw {S : Sp} {R T : Nat} {how why sp : Int} {Rr l : List Rw} (h : Oe R T S how why sp Rr) (hc : ju S l = true) (h1 : how = 1) : Rr.length ≤ l.length := by
 rcases h with h | h
 ·exact h.2.2.2.2.2.min l hc
 ·have := h.1; omega
end
section
open Go Go.RowKit
section
variable {S : Sp}
end
section
variable {S : Sp} {l : List Rw}
end
section
variable {S : Sp} {b0 b1 how why sp : Int} {R T : Nat} {Rr : List Rw}
end
section
variable {l R : List Rw} {i : Nat}
end
section
variable {P : Program} {f : Nat → Value} {w : World} {d : Option Nat} {ty : TypeId} {ps : String} {af : Array Edge} {g : Option (Nat × Bool)} {x y : Operand} {t t2 : TypeId}
end
end
section
open Go Go.RowKit
theorem M9 : dC Tryz.prog 15 = true := by kernel_rfl
theorem I6 : dC Tryz.prog 10 = true := by kernel_rfl
theorem rt {f : Nat → Value} {w : World} {d : Option Nat} {ty : TypeId} {ps : String} {af : Array Edge} {g : Option (Nat × Bool)} {x0 : Operand} {c0_0 : Value} (h0 : dO f x0 = c0_0) (k0 : c0_0.cells = #[c0_0]) :
    (execOp (dO f) ⟨d, .build 49 #[(0, x0)], ty, ps, af, g⟩).run Tryz.prog w = .ok (.value (.agg #[c0_0, .int .u64 0, .int .u64 0, .int .u64 0])) w := by
  obtain ⟨i0, hi0, hz0⟩ := Option.bind_eq_some_iff.1 (show (Tryz.prog.info? 49).bind (·.zero) = _ from eM)
  obtain ⟨j47, hj47, hs47⟩ := Option.map_eq_some_iff.1 yg
  simp [execOp, h0, k0, Instr.build, zeroValue, typeInfo, sizeOf, hi0, hz0, run_underlying Tryz.underlying49, Instr.fill, eW, hj47, hs47]
theorem GM : eL Tryz.prog 24 = some (.agg #[.int .i64 0, .slice none 0 0, .slice none 0 0]) := by kernel_rfl
theorem Ge : (Tryz.prog.info? 22).map (·.size) = some 1 := by kernel_rfl
theorem tq {f : Nat → Value} {w : World} {d : Option Nat} {ty : TypeId} {ps : String} {af : Array Edge} {g : Option (Nat × Bool)} {x0 x1 x2 : Operand} {c0_0 c1_0 c2_0 : Value} (h0 : dO f x0 = c0_0) (k0 : c0_0.cells = #[c0_0]) (h1 : dO f x1 = c1_0) (k1 : c1_0.cells = #[c1_0]) (h2 : dO f x2 = c2_0) (k2 : c2_0.cells = #[c2_0]) :
    (execOp (dO f) ⟨d, .build 24 #[(0, x0), (1, x1), (2, x2)], ty, ps, af, g⟩).run Tryz.prog w = .ok (.value (.agg #[c0_0, c1_0, c2_0])) w := by
  obtain ⟨i0, hi0, hz0⟩ := Option.bind_eq_some_iff.1 (show (Tryz.prog.info? 24).bind (·.zero) = _ from GM)
  obtain ⟨j3, hj3, hs3⟩ := Option.map_eq_some_iff.1 ik
  obtain ⟨j22, hj22, hs22⟩ := Option.map_eq_some_iff.1 Ge
  simp [execOp, h0, k0, h1, k1, h2, k2, Instr.build, zeroValue, typeInfo, sizeOf, hi0, hz0, run_underlying Tryz.underlying24, Instr.fill, eW, hj3, hs3, hj22, hs22]
theorem IK : dC Tryz.prog 9 = true := by kernel_rfl
theorem sY : fx Tryz.prog 32 1 = some 1 := by kernel_rfl
theorem yc : fx Tryz.prog 32 2 = some 2 := by kernel_rfl
theorem P6 : dC Tryz.prog 7 = true := by kernel_rfl
theorem x6 : dC Tryz.prog 8 = true := by kernel_rfl
theorem oA (S : Sp) (onV mayV : Value) (w : World) (hon : dM gp 4 w onV S.on) (hmay : dM gp 4 w mayV S.may) :
    Fn Tryz.prog 15 #[.agg #[.int .i64 S.n, onV, mayV]] w fun v w' => v = .bool (nq S) := by
 refine dq (n := 13) Tryz.func15 rfl rfl (Nat.le_of_ble_eq_true rfl) ?_
 have hB : Below w.heap.size w w := Below.refl _ _
 refine Zr <| Zy (dU (c := #[_, _, _]) rfl rfl fun f W3 b e d => ?_)
 have g := ZO b hB
 clear b
 replace hB := Ze hB e
 refine Zw (.bool false) rfl <| cT <| Zr <| Zf rfl fF <| ZL onV rfl eE d rfl <| Zv (dA (v := onV) rfl (Below.slT hB hon) ea) <| Zv (iQ rfl rfl) <| ZX rfl (fun a => ?_) fun a => ?_
 refine Zs <| Zs <| Zs <| Zs <| Zw (.bool true) rfl <| Zw (.bool true) rfl <| cT <| Zt <| dE (v := .bool true) rfl ⟨hB, ?_⟩
 first | exact congrArg Value.bool (EZ a) | exact congrArg Value.bool (DD a)
 refine Zf rfl fU <| ZL mayV rfl eE d rfl <| Zv (dA (v := mayV) rfl (Below.slT hB hmay) ea) <| Zv (iQ rfl rfl) <| Zb rfl <| Zb rfl <| cT <| Zt <| dE (v := .bool _) rfl ⟨hB, ?_⟩
 first | exact congrArg Value.bool (EZ a) | exact congrArg Value.bool (DD a)
theorem od (S : Sp) (onV mayV : Value) (w : World) (hon : dM gp 4 w onV S.on) (hmay : dM gp 4 w mayV S.may) :
    Fn Tryz.prog 7 #[.agg #[.int .i64 S.n, onV, mayV]] w fun v w' => v = .bool (kz S) := by
 refine dq (n := 20) Tryz.func7 rfl rfl (Nat.le_of_ble_eq_true rfl) ?_
 have hB : Below w.heap.size w w := Below.refl _ _
 refine Zr <| Zy (dU (c := #[_, _, _]) rfl rfl fun l W3 f i e => ?_)
 have m := ZO f hB
 clear f
 replace hB := Ze hB i
 refine Zw (.bool false) rfl <| cT <| Zr <| Zv (db rfl eV rfl e) <| ZC (vs := [.agg #[_, _, _]]) M9 (oA S _ _  _ (Below.slT hB hon) (Below.slT hB hmay) ) rfl fun o W8 g j => ?_
 replace hB := Ze hB g
 replace e := g.at e
 obtain rfl := j
 refine ZX rfl (fun a => ?_) fun a => ?_
 refine Zs <| Zs <| Zs <| Zs <| Zs <| Zs <| Zs <| Zs <| Zs <| Zs <| Zs <| Zs <| Zs <| Zw (.bool true) rfl ?_
 refine Zw (.bool true) rfl <| cT <| Zt <| dE (v := .bool true) rfl ⟨hB, ?_⟩
 first | exact Ec a | exact DW a b d | exact E0 a b d | exact E4 a b
 refine Zv (db rfl eV rfl e) <| ZC (vs := [.agg #[_, _, _]]) I6 (ka S _ _  _ (Below.slT hB hon) (Below.slT hB hmay) ) rfl fun p q h k => ?_
 replace hB := Ze hB h
 replace e := h.at e
 obtain rfl := k
 refine ZX rfl (fun b => ?_) fun b => ?_
 refine Zf rfl fQ <| Zl rfl dB e rfl <| Zv (iQ rfl rfl) <| ZX rfl (fun d => ?_) fun d => ?_
 refine Zs <| Zs <| Zs <| Zs <| Zw (.bool true) rfl <| Zw (.bool true) rfl <| Zw (.bool true) rfl <| Zw (.bool true) rfl <| cT <| Zt <| dE (v := .bool true) rfl ⟨hB, ?_⟩
 first | exact Ec a | exact DW a b d | exact E0 a b d | exact E4 a b
 refine Zf rfl fF <| ZL onV rfl eE e rfl <| Zv (dA (v := onV) rfl (Below.slT hB hon) ea) <| Zv (iQ rfl rfl) <| Zb rfl <| Zb rfl <| Zb rfl <| Zb rfl <| cT <| Zt <| dE (v := .bool _) rfl ⟨hB, ?_⟩
 first | exact Ec a | exact DW a b d | exact E0 a b d | exact E4 a b
 refine Zs <| Zs <| Zs <| Zs <| Zs <| Zs <| Zs <| Zs <| Zs <| Zw (.bool false) rfl <| Zw (.bool false) rfl <| Zw (.bool false) rfl <| cT <| Zt ?_
 refine dE (v := .bool false) rfl ⟨hB, ?_⟩
 first | exact Ec a | exact DW a b d | exact E0 a b d | exact E4 a b
set_option maxRecDepth 10000 in
theorem fE  (w : World) :
    Fn Tryz.prog 8 #[] w fun v w' => v = .bool true := by
 refine dq (n := 61) Tryz.func8 rfl rfl (Nat.le_of_ble_eq_true rfl) ?_
 have hB : Below w.heap.size w w := Below.refl _ _
 refine Zr <| Zw (.bool false) rfl <| cT <| Zr <| Zv (v := eP 14) (rt (h0 := rfl) (k0 := rfl) (c0_0 := .int .u64 14)) <| Zy (fc (u := .agg #[_, _, _, _]) rfl ea ua rfl Dd Dd fun K W5 E L o => ?_)
 have M := ZO E hB
 clear E
 replace hB := Ze hB L
 refine Zv (v := eP 14) (rt (h0 := rfl) (k0 := rfl) (c0_0 := .int .u64 14)) <| Zy (fc (u := .agg #[_, _, _, _]) rfl ea ua rfl Dd Dd fun N W8 q F O => ?_)
 have P := ZO q hB
 have Z := Zn q o.lt
 clear q
 replace hB := Ze hB F
 replace o := F.at o
 have b := ix (enc := gp) (a := 14) o rfl rfl M
 have c := ix (enc := gp) (a := 14) O rfl rfl P
 refine Zv (tq (h0 := rfl) (k0 := rfl) (h1 := rfl) (k1 := rfl) (h2 := rfl) (k2 := rfl) (c0_0 := .int .i64 2) (c1_0 := .slice (some ⟨K, 0, none⟩) 1 1) (c2_0 := .slice (some ⟨N, 0, none⟩) 1 1)) <| Zy (dt GM rfl fun aa ab G r d => ?_)
 have Q := ZO G hB
 clear G
 replace hB := Ze hB r
 replace b := r.ow b
 replace c := r.ow c
 refine Zy (dg rfl rfl eV rfl d rfl rfl fun ac s R => ?_)
 replace hB := Zg hB s Q
 replace b := dh.grownAt b d s Dd
 replace c := dh.grownAt c d s Dd
 replace d := R
 refine cT <| Zr <| Zv (db rfl eV rfl d) <| Zv (pz (h0 := rfl) (k0 := rfl) (h1 := rfl) (k1 := rfl) (c0_0 := .int .i64 20000) (c1_0 := .int .i64 1000000)) <| ZC (vs := [.agg #[_, _, _], .agg #[_, _]]) IK (kQ KQ _ _ 20000 1000000 _ b.sl c.sl (fun _ => by decide)) rfl fun ad ae p H => ?_
 have S := (Below.size hB)
 replace hB := Ze hB p
 replace b := p.ow b
 replace c := p.ow c
 replace d := p.at d
 rw [if_pos (show dP KQ = true ∧ px _ _ from ⟨pG, by decide⟩)] at H
 obtain ⟨x2_2, how2_2, why2_2, sp2_2, Rr2_2, rfl, f, hmo2_2⟩ := H
 replace f := dh.mono f S
 obtain ⟨rfl, rfl, hlen2_2⟩ := QE hmo2_2
 refine Zw (.tuple #[.agg #[x2_2, .int .i64 _, .int .i64 _, .int .i64 _], .int .i64 0]) rfl <| Zv (dI rfl) <| Zv (dK rfl) <| Zy (dt mL rfl fun af ag I l e => ?_)
 have T := ZO I hB
 clear I
 replace hB := Ze hB l
 replace b := l.ow b
 replace c := l.ow c
 replace d := l.at d
 replace f := l.ow f
 refine Zy (dg rfl rfl fi rfl e rfl (by exact oH (dh.one f)) fun ah m U => ?_)
 replace hB := Zg hB m T
 replace b := dh.grownAt b e m Dd
 replace c := dh.grownAt c e m Dd
 replace d := At.grownAt d e m Dd
 replace f := dh.grownAt f e m Dd
 replace e := U
 refine Zw (.int .i64 0) rfl <| cT <| Zr <| Zv (db rfl eV rfl d) <| Zv (Ah ) <| ZC (vs := [.agg #[_, _, _], .agg #[_, _]]) IK (kQ KQ _ _ 0 0 _ b.sl c.sl (fun _ => by decide)) rfl fun ai aj k J => ?_
 have V := (Below.size hB)
 replace hB := Ze hB k
 replace b := k.ow b
 replace c := k.ow c
 replace d := k.at d
 replace f := k.ow f
 replace e := k.at e
 rw [if_pos (show dP KQ = true ∧ px _ _ from ⟨pG, by decide⟩)] at J
 obtain ⟨x3_2, how3_2, why3_2, sp3_2, Rr3_2, rfl, h, hmo3_2⟩ := J
 replace h := dh.mono h V
 obtain ⟨rfl, rfl, hlen3_2⟩ := Qy hmo3_2
 refine Zw (.tuple #[.agg #[x3_2, .int .i64 _, .int .i64 _, .int .i64 _], .int .i64 0]) rfl <| Zv (dI rfl) <| Zv (dK rfl) <| Zy (dt mL rfl fun ak al t i g => ?_)
 have W := ZO t hB
 have X := Zn t e.lt
 clear t
 replace hB := Ze hB i
 replace b := i.ow b
 replace c := i.ow c
 replace d := i.at d
 replace f := i.ow f
 replace e := i.at e
 replace h := i.ow h
 refine Zy (dg rfl rfl fi rfl g rfl (by exact oH (dh.one h)) fun ao j Y => ?_)
 replace hB := Zg hB j W
 replace b := dh.grownAt b g j Dd
 replace c := dh.grownAt c g j Dd
 replace d := At.grownAt d g j Dd
 replace f := dh.grownAt f g j Dd
 replace e := At.grownNe e X j
 replace h := dh.grownAt h g j Dd
 replace g := Y
 refine Zw (.int .i64 0) rfl <| cT <| Zr <| Zf rfl nW <| ZL x2_2 rfl lS e rfl <| Zv (dA (v := x2_2) rfl f.sl dT) <| Zv (eB rfl rfl) <| ZX rfl (fun x => ?_) fun x => ?_
 refine Zf rfl sY <| Zl rfl dB e rfl <| Zv (eB rfl rfl) <| Zb rfl <| ZX rfl (fun y => ?_) fun y => ?_
 refine Zf rfl yc <| Zl rfl jL e rfl <| Zv (eB rfl rfl) <| Zb rfl <| ZX rfl (fun z => ?_) fun z => ?_
 refine Zw (.int .i64 0) rfl <| Zv (eB rfl rfl) <| Zb rfl <| ZX rfl (fun A => ?_) fun A => ?_
 refine Zf rfl nW <| ZL x3_2 rfl lS g rfl <| Zv (dA (v := x3_2) rfl h.sl dT) <| Zv (eB rfl rfl) <| Zb rfl <| ZX rfl (fun B => ?_) fun B => ?_
 refine Zf rfl sY <| Zl rfl dB g rfl <| Zv (eB rfl rfl) <| Zb rfl <| ZX rfl (fun C => ?_) fun C => ?_
 refine Zf rfl yc <| Zl rfl jL g rfl <| Zv (eB rfl rfl) <| Zb rfl <| ZX rfl (fun D => ?_) fun D => ?_
 refine Zw (.int .i64 0) rfl <| Zv (eB rfl rfl) <| Zb rfl <| Zb rfl <| cT <| Zt <| dE (v := .bool _) rfl ⟨hB, ?_⟩
 rfl
 first | exact absurd rfl D | exact absurd (by omega) D
 first | exact absurd rfl C | exact absurd (by omega) C
 first | exact absurd rfl B | exact absurd (by omega) B
 first | exact absurd rfl A | exact absurd (by omega) A
 first | exact absurd rfl z | exact absurd (by omega) z
 first | exact absurd rfl y | exact absurd (by omega) y
 first | exact absurd rfl x | exact absurd (by omega) x
set_option maxRecDepth 20000 in
theorem mw (S : Sp) (onV mayV : Value) (xa : Value) (l : List Rw) (w : World) (hon : dM gp 4 w onV S.on) (hmay : dM gp 4 w mayV S.may) (hl : dM gv 3 w xa l) (hlr : hU l) :
    Fn Tryz.prog 4 #[.agg #[.int .i64 S.n, onV, mayV], xa] w fun v w' => v = .bool true := by
 refine dq (n := 50) Tryz.func4 rfl rfl (Nat.le_of_ble_eq_true rfl) ?_
 have hB : Below w.heap.size w w := Below.refl _ _
 refine Zr <| Zy (dU (c := #[_, _, _]) rfl rfl fun Q W3 o E a => ?_)
 have R := ZO o hB
 clear o
 replace hB := Ze hB E
 refine Zw (.bool false) rfl <| cT <| cY fun K6 F => Zr <| Zv (db rfl eV rfl a) <| ZC (vs := [.agg #[_, _, _]]) P6 (od S _ _  _ (Below.slT hB hon) (Below.slT hB hmay) ) rfl fun T U p G => ?_
 replace hB := Ze hB p
 replace a := p.at a
 obtain rfl := G
 refine ZX rfl (fun q => ?_) fun q => ?_
 refine Zs <| Zs <| Zs <| Zw (.bool true) rfl <| Zw (.bool true) rfl <| Zs <| Zs <| Zs <| Zw (.bool true) rfl <| Zw (.bool true) rfl <| Zs <| Zs <| Zs <| Zs ?_
 refine Zw (.bool true) rfl <| cT <| dz rfl <| Zr <| ZC x6 (fE _) rfl fun h V r e => ?_
 replace hB := Ze hB r
 replace a := r.at a
 obtain rfl := e
 refine Zb rfl <| cT <| Zt <| dE (v := .bool _) rfl ⟨hB, ?_⟩
 rfl
 refine Zv (db rfl eV rfl a) <| ZC (vs := [.agg #[_, _, _]]) I6 (ka S _ _  _ (Below.slT hB hon) (Below.slT hB hmay) ) rfl fun W X s H => ?_
 replace hB := Ze hB s
 replace a := s.at a
 obtain rfl := H
 refine Zv (fy rfl) <| Zb rfl <| ZX rfl (fun i => ?_) fun i => ?_
 refine Zs <| Zs <| Zs <| Zw (.bool true) rfl <| Zw (.bool true) rfl <| Zs <| Zs <| Zs <| Zs <| Zw (.bool true) rfl <| cT <| dz rfl <| Zr <| ZC x6 (fE _) rfl fun h Y t e => ?_
 replace hB := Ze hB t
 replace a := t.at a
 obtain rfl := e
 refine Zb rfl <| cT <| Zt <| dE (v := .bool _) rfl ⟨hB, ?_⟩
 rfl
 refine Zw xa rfl <| Zv (dA (v := xa) rfl (Below.slT hB hl) dT) <| Zv (iQ rfl rfl) <| Zb rfl <| ZX rfl (fun I => ?_) fun I => ?_
 refine Zs <| Zs <| Zs <| Zs <| Zw (.bool true) rfl <| cT <| dz rfl <| Zr <| ZC x6 (fE _) rfl fun h Z u e => ?_
 replace hB := Ze hB u
 replace a := u.at a
 obtain rfl := e
 refine Zb rfl <| cT <| Zt <| dE (v := .bool _) rfl ⟨hB, ?_⟩
 rfl
 refine Zv (db rfl eV rfl a) <| Zw xa rfl <| ZC (vs := [.agg #[_, _, _], xa]) MJ (nV S _ _ _ l _ (Below.slT hB hon) (Below.slT hB hmay) (Below.slT hB hl) Om hlr (ie i)) rfl fun aa ab x J => ?_
 replace hB := Ze hB x
 replace a := x.at a
 obtain rfl := J
 refine Zv (fy rfl) <| Zb rfl <| cT <| ZQ rfl (fun y => ?_) fun y => ?_
 refine Zr <| ZC x6 (fE _) rfl fun h ac z e => ?_
 replace hB := Ze hB z
 replace a := z.at a
 obtain rfl := e
 refine Zb rfl <| cT <| Zt <| dE (v := .bool _) rfl ⟨hB, ?_⟩
 rfl
 refine c9 <| F _ _ ?_
 have hr : dP S = true := ie i
 have hbd : px 20000 2000 := by decide
 have hcv : ju S l = true := ie y
 refine Zr <| Zv (db rfl eV rfl a) <| Zv (pz (h0 := rfl) (k0 := rfl) (h1 := rfl) (k1 := rfl) (c0_0 := .int .i64 20000) (c1_0 := .int .i64 2000)) <| ZC (vs := [.agg #[_, _, _], .agg #[_, _]]) IK (kQ S _ _ 20000 2000 _ (Below.slT hB hon) (Below.slT hB hmay) (fun _ => BF hr q)) rfl fun ad ae A B => ?_
 have K := (Below.size hB)
 replace hB := Ze hB A
 replace a := A.at a
 rw [if_pos (show dP S = true ∧ px _ _ from ⟨hr, hbd⟩)] at B
 obtain ⟨x3_2, how3_2, why3_2, sp3_2, Rr3_2, rfl, b, hmo3_2⟩ := B
 replace b := dh.mono b K
 refine Zw (.tuple #[.agg #[x3_2, .int .i64 _, .int .i64 _, .int .i64 _], .int .i64 0]) rfl <| Zv (dI rfl) <| Zv (dK rfl) <| Zy (dt mL rfl fun af ag C j d => ?_)
 have L := ZO C hB
 clear C
 replace hB := Ze hB j
 replace a := j.at a
 replace b := j.ow b
 refine Zy (dg rfl rfl fi rfl d rfl (by exact oH (dh.one b)) fun ah k M => ?_)
 replace hB := Zg hB k L
 replace a := At.grownAt a d k Dd
 replace b := dh.grownAt b d k Dd
 replace d := M
 refine Zw (.int .i64 0) rfl <| cT <| Zr <| Zw (.int .i64 0) rfl <| Zv (eB rfl rfl) <| ZX rfl (fun D => ?_) fun D => ?_
 refine Zf rfl sY <| Zl rfl dB d rfl <| Zv (f7 rfl rfl) <| ZX rfl (fun N => ?_) fun N => ?_
 refine Zs <| Zs <| Zs <| Zs <| Zs <| Zs <| Zw (.bool true) rfl <| Zw (.bool true) rfl <| Zw (.bool true) rfl <| ZC x6 (fE _) rfl fun O ai f m => ?_
 replace hB := Ze hB f
 replace a := f.at a
 replace b := f.ow b
 replace d := f.at d
 obtain rfl := m
 refine Zb rfl <| Zb rfl <| cT <| Zt <| dE (v := .bool _) rfl ⟨hB, ?_⟩
 rfl
 refine Zf rfl nW <| ZL x3_2 rfl lS d rfl <| Zv (dA (v := x3_2) rfl b.sl dT) <| Zw xa rfl <| Zv (dA (v := xa) rfl (Below.slT hB hl) dT) <| Zv (yi rfl rfl) <| Zb rfl <| Zb rfl <| ZX rfl (fun P => ?_) fun P => ?_
 refine ZC x6 (fE _) rfl fun O aj g m => ?_
 replace hB := Ze hB g
 replace a := g.at a
 replace b := g.ow b
 replace d := g.at d
 obtain rfl := m
 refine Zb rfl <| Zb rfl <| cT <| Zt <| dE (v := .bool _) rfl ⟨hB, ?_⟩
 rfl
 exact absurd (Kw hmo3_2 hcv Om) Om
 exact absurd rfl D
end
end Go.Proofs.YteimkklmmanncaaGreat
