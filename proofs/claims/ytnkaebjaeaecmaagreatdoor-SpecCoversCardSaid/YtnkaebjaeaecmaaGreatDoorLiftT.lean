/-
  How tables and strings read that are arguments of the statements; a row whose listed variables are laid.
-/
import Derived.Test.YtnkaebjaeaecmaaGreatDoorLift1
import Derived.Test.YtnkaebjaeaecmaaGreatDoorTab
import Derived.Deep.Slices
import Derived.LaidMore
import Derived.Lay
import Derived.SizedLaws
import Derived.MakeChecks
import Derived.Stop.LaidErr
import Derived.Lib.LaidTab
import Derived.Shelf.Vars
import Derived.Stop.Joined
namespace Go.Proofs.YtnkaebjaeaecmaaGreatDoor
set_option linter.unusedVariables false
set_option linter.unusedSimpArgs false
open Go Go.RowKit Go.ChangeShapes Go.WideShapes Go.ChangeAt Go.Joins Go.Deep

instance : Inhabited LnV := ⟨⟨⟨0, 0⟩, undef⟩⟩
section
variable {H : Type} {encH : TypeId × Value → H} {P : Program} {w : World} {base : Nat} {held : Bool} {r : Reach} {b0 : Nat} {t e : TypeId}
theorem el_cubeT {f0 f1 : Field} (hs : P.underlying t = some (.struct #[f0, f1])) (ho0 : f0.offset = 0) (ho1 : f1.offset = 1) (hc0 : P.cellsOf f0.type = 1) (hc1 : P.cellsOf f1.type = 1) (h0 : P.underlying f0.type = some (.int .u8)) (h1 : P.underlying f1.type = some (.int .u8))
    {n : Nat} {cs : List Value} {y : DataW H × List MemPlace} (hl : cs.length = 2) (h : DataW.trod encH P w base (fun _ => true) held n t cs = some y) : ∃ c : Cb, cs = encC c ∧ (c.m < 256 ∧ c.v < 256) := by
  match cs, hl with
  | [a, b], _ =>
    obtain ⟨y0, y1, n, hx, _, g0, g1⟩ := trod_struct2 hs h
    rw [ho0, hc0] at g0
    rw [ho1, hc1] at g1
    obtain ⟨n0, e0, _, w0⟩ := DataW.trod_int h0 g0
    obtain ⟨n1, e1, _, w1⟩ := DataW.trod_int h1 g1
    simp at e0 e1
    subst e0 e1
    obtain ⟨k0, rfl, l0⟩ := wf_u8 w0
    obtain ⟨k1, rfl, l1⟩ := wf_u8 w1
    exact ⟨⟨k0, k1⟩, rfl, l0, l1⟩
/-- What is known of a line as it lies. -/
def LnQ (w : World) (x : LnV) : Prop := x.c.m < 256 ∧ x.c.v < 256 ∧ ∃ os : List Int, SlT encI 1 w x.o os
theorem el_line {f0 f1 g0 g1 : Field} {q : TypeId} (hs : P.underlying t = some (.struct #[f0, f1])) (ho0 : f0.offset = 0) (ho1 : f1.offset = 2) (hc0 : P.cellsOf f0.type = 2) (hc1 : P.cellsOf f1.type = 1) (h1 : P.underlying f1.type = some (.slice q)) (hq : P.underlying q = some (.int .i64)) (hcq : P.cellsOf q = 1)
    (hs2 : P.underlying f0.type = some (.struct #[g0, g1])) (hp0 : g0.offset = 0) (hp1 : g1.offset = 1) (hd0 : P.cellsOf g0.type = 1) (hd1 : P.cellsOf g1.type = 1) (k0 : P.underlying g0.type = some (.int .u8)) (k1 : P.underlying g1.type = some (.int .u8))
    {n : Nat} {cs : List Value} {y : DataW H × List MemPlace} (hl : cs.length = 3) (h : DataW.trod encH P w base (fun _ => true) held n t cs = some y) : ∃ x : LnV, cs = encLn x ∧ LnQ w x := by
  match cs, hl with
  | [a, b, c], _ =>
    obtain ⟨y0, y1, n, hx, _, q0, q1⟩ := trod_struct2 hs h
    rw [ho0, hc0] at q0
    rw [ho1, hc1] at q1
    obtain ⟨cb, e0, l0, l1⟩ := el_cubeT hs2 hp0 hp1 hd0 hd1 k0 k1 (by simp) q0
    have q1' : DataW.trod encH P w base (fun _ => true) held n f1.type [c] = some y1 := by simpa using q1
    obtain ⟨os, ho, _⟩ := open_sl (α := Int) (enc := encI) h1 hcq (by decide) encI_len (fun n cs y hl hh => el_int hq hl hh) q1'
    simp [encC] at e0
    obtain ⟨rfl, rfl⟩ := e0
    exact ⟨⟨cb, c⟩, rfl, l0, l1, os, ho⟩
theorem ls_of : ∀ (vs : List LnV), (∀ x, x ∈ vs → LnQ w x) → ∃ ls, LsAt w vs ls ∧ ∀ i, i < ls.length → (ls.getD i ln0).c.m < 256 ∧ (ls.getD i ln0).c.v < 256
  | [], _ => ⟨[], ⟨rfl, fun i hi => (by cases hi), fun i hi => (by cases hi)⟩, fun i hi => by cases hi⟩
  | v :: vs, h => by
    obtain ⟨ls, hL, hb⟩ := ls_of vs (fun x hx => h x (List.mem_cons_of_mem _ hx))
    obtain ⟨h1, h2, os, ho⟩ := h v (List.mem_cons_self ..)
    refine ⟨⟨v.c, os⟩ :: ls, ⟨by simp [hL.len], fun i hi => ?_, fun i hi => ?_⟩, fun i hi => ?_⟩
    · cases i with
      | zero => rfl
      | succ i => exact hL.c i (by simpa using hi)
    · cases i with
      | zero => exact ho
      | succ i => exact hL.o i (by simpa using hi)
    · cases i with
      | zero => exact ⟨h1, h2⟩
      | succ i => exact hb i (by simpa using hi)
theorem sl_limT {fuel : Nat} {v : Value} {x : DataW H × List MemPlace} (ht : P.underlying t = some (.slice e)) (h : DataW.trod encH P w base (fun _ => true) held fuel t [v] = some x) : slC v ≤ 9223372036854775807 := by
  rcases open_slice ht h with ⟨h0, _⟩ | ⟨a, len, cap, m, n, D, Pl, h1, hb, hl, hm, hmm, hx, hel⟩
  · simp only [List.cons.injEq, and_true] at h0
    subst h0
    exact Nat.zero_le _
  · simp only [List.cons.injEq, and_true] at h1
    subst h1
    show cap ≤ 9223372036854775807
    simpa [maxLen] using hm
theorem open_table {v : Value} {d : DataW H} {p : List MemPlace} {f0 f1 f2 f3 l0 l1 g0 g1 : Field} {eL q : TypeId} (hs : P.underlying t = some (.struct #[f0, f1, f2, f3])) (hone : oneCellFields P #[f0, f1, f2, f3] = true) (hC : P.cellsOf t = 4) (h0 : P.underlying f0.type = some (.int .i64)) (h1 : P.underlying f1.type = some (.int .i64)) (h2 : P.underlying f2.type = some (.int .i64)) (h3 : P.underlying f3.type = some (.slice eL))
    (hcL : P.cellsOf eL = 3) (hsL : P.underlying eL = some (.struct #[l0, l1])) (ho0 : l0.offset = 0) (ho1 : l1.offset = 2) (hc0 : P.cellsOf l0.type = 2) (hc1 : P.cellsOf l1.type = 1) (hl1 : P.underlying l1.type = some (.slice q)) (hq : P.underlying q = some (.int .i64)) (hcq : P.cellsOf q = 1)
    (hs2 : P.underlying l0.type = some (.struct #[g0, g1])) (hp0 : g0.offset = 0) (hp1 : g1.offset = 1) (hd0 : P.cellsOf g0.type = 1) (hd1 : P.cellsOf g1.type = 1) (k0 : P.underlying g0.type = some (.int .u8)) (k1 : P.underlying g1.type = some (.int .u8))
    (hv : Value.okWide P w r b0 t v) (h : DataW.Trod encH P w base (fun _ => true) held t v d p) :
    ∃ (T : Tb) (lv : Value) (vs : List LnV), v = .agg #[.int .i64 T.kind, .int .i64 T.ni, .int .i64 T.no, lv] ∧ SlT encLn 3 w lv vs ∧ LsAt w vs T.ls ∧ (∀ i, i < T.ls.length → (T.ls.getD i ln0).c.m < 256 ∧ (T.ls.getD i ln0).c.v < 256) ∧ vs.length ≤ 9223372036854775807 := by
  obtain ⟨v0, v1, v2, v3, y0, y1, y2, y3, n, rfl, _, _, a0, a1, a2, a3⟩ := open_agg4 hs hone hC hv h
  obtain ⟨z0, e0, _, _⟩ := DataW.trod_int h0 a0
  obtain ⟨z1, e1, _, _⟩ := DataW.trod_int h1 a1
  obtain ⟨z2, e2, _, _⟩ := DataW.trod_int h2 a2
  simp only [List.cons.injEq, and_true] at e0 e1 e2
  subst e0 e1 e2
  have hlim := sl_limT h3 a3
  obtain ⟨vs, b1, b2⟩ := open_sl (α := LnV) (enc := encLn) h3 hcL (by decide) encLn_len (fun n cs y hl hh => el_line hsL ho0 ho1 hc0 hc1 hl1 hq hcq hs2 hp0 hp1 hd0 hd1 k0 k1 hl hh) a3
  obtain ⟨ls, c1, c2⟩ := ls_of vs b2
  exact ⟨⟨z0, z1, z2, ls⟩, v3, vs, rfl, b1, c1, c2, Nat.le_trans (Sl.eqv b1).2.1 hlim⟩
end

/-- A row whose listed variables are laid: the walk has what they read as, and the world's shape. -/
theorem lift_laid {H : Type} {enc : TypeId × Value → H} {a : Assume} {C : Checked} {os : Os} {f : FuncId} {fn : Func} {s : ChangeSpec} {conds : List PathCond} {apart fresh handsOn again : Bool} {laid : List (String × DataW Unit)}
    (own : ownKnob C.prog.godebug = none) (started : os.Started) (noInit : C.prog.inits.idxOf? f = none) (hfn : C.prog.funcs[f]? = some fn)
    (witness : ∃ (w : World) (tape : Tape) (i : Input), w.os = os ∧ (w.forCall tape i).Shaped C.prog ∧ i.vars = [] ∧ Input.okWide C.prog (w.forCall tape i) .any w.heap.size f i ∧
      ((s.pre enc C.prog fn conds apart (w.forCall tape i).memory i.args ∧ laidMetH C.prog laid (w.forCall tape i).memory) ∧ sizedMet enc C.prog fn (OpenSpec.ofChange s) apart (w.forCall tape i).memory i.args) ∧ a.holds C.prog (lone (Frame.enter C.prog f i.args .normal) [] (w.forCall tape i)))
    (contract : ∀ (W : World) (base : Nat) (args : Array Value) (ds gs : List (DataW H)) (before : List MemPlace),
      (∀ (j : Nat) t v, fn.params[j]? = some t → args[j]? = some v → Value.okWide C.prog W .any base t v) →
      DataW.Whole enc C.prog fn.params.toList s.vars apart W args.toList ds gs before → laidMetH C.prog laid W → W.ShapedOpen C.prog →
      Calls C.prog f args W fun e W' => ∃ v, e = .returned v ∧ s.post enc C.prog fn apart fresh handsOn again W args v W') :
    ReturnsInHanded a C os f .any (fun w args => (s.pre enc C.prog fn conds apart w args ∧ laidMetH C.prog laid w) ∧ sizedMet enc C.prog fn (OpenSpec.ofChange s) apart w args) (s.post enc C.prog fn apart fresh handsOn again) := by
  refine returnsInHanded_of_calls own started noInit witness ?_
  intro w tape i _ hsh _ hok hpre _
  obtain ⟨_, _, _, fn', hfn', _, _, _, _, hval⟩ := hok
  have e : fn' = fn := Option.some.inj (hfn'.symm.trans hfn)
  subst e
  obtain ⟨⟨⟨ds, gs, before, hw, _⟩, hx⟩, _⟩ := hpre
  have hw' := DataW.Whole.of_heap (w' := w.forCall tape i) (by rfl) hw
  refine (contract (w.forCall tape i) w.heap.size i.args ds gs before hval hw' (laidMetH.of_heap (by rfl) hx) hsh).mono fun e W' ⟨v, he, hp⟩ => ?_
  subst he
  exact ChangeSpec.post_blind hp

end Go.Proofs.YtnkaebjaeaecmaaGreatDoor
