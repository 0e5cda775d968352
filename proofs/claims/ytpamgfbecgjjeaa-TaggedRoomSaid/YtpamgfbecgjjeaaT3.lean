/-
  The memory of a chain of deeds. No program in it.
-/
import Derived.Test.YtpamgfbecgjjeaaT2
namespace Go.Proofs.Ytpamgfbecgjjeaa
set_option linter.unusedVariables false
set_option linter.unusedSimpArgs false
open Go Go.RowKit

def Wc (T : TypeId) (bc bz : Nat) (w : World) : Prop := ∃ e, At w bc #[.pointer (some ⟨bz, 0, none⟩), .int .i64 e] T
structure Dc (Tn T : TypeId) (N bc bz ba bm : Nat) (w w' : World) : Prop where
  dx : Dx Tn N [bc, ba, bm] w w'
  wk : Wc T bc bz w → Wc T bc bz w'
section
variable {Ta Tn T T' : TypeId} {N bc bz ba bm R b : Nat} {w w' w'' : World} {ns ns' : List Nd} {e e' : Int} {c cw : Array Value}
theorem Wc.c0 (h : Wc T bc bz w) : w.cell? ⟨bc, 0, none⟩ = some (.pointer (some ⟨bz, 0, none⟩)) := by
  obtain ⟨e, h⟩ := h
  exact At.cell h rfl
theorem Dc.refl : Dc Tn T N bc bz ba bm w w := ⟨Dx.refl, id⟩
theorem Dc.trans (h : Dc Tn T N bc bz ba bm w w') (k : Dc Tn T N bc bz ba bm w' w'') : Dc Tn T N bc bz ba bm w w'' := ⟨h.dx.trans k.dx, fun q => k.wk (h.wk q)⟩
theorem Dc.ext (h : Ext w w') : Dc Tn T N bc bz ba bm w w' := ⟨Dx.ext h, fun ⟨e, q⟩ => ⟨e, h.at q⟩⟩
theorem Dc.zdd (D : Dia Ta Tn N ba bm R w ns) (h : Dx Tn N [ba, bm] w w') (hTa : T ≠ Ta) (hTn : T ≠ Tn) : Dc Tn T N bc bz ba bm w w' := ⟨h.mono (fun x hx => List.mem_cons_of_mem _ hx), fun ⟨e, q⟩ => ⟨e, At.dx D h q hTa hTn⟩⟩
theorem Dc.did (h : w.grownBy w' (some bc)) (hN : N ≤ bc) (q : At w' bc #[.pointer (some ⟨bz, 0, none⟩), .int .i64 e'] T) : Dc Tn T N bc bz ba bm w w' := ⟨Dx.grown h (List.mem_cons_self ..) hN, fun _ => ⟨e', q⟩⟩
theorem At.dc (D : Dia Ta Tn N ba bm R w ns) (hw : At w bc cw T) (h : Dc Tn T N bc bz ba bm w w') (q : At w b c T') (h1 : T' ≠ Ta) (h2 : T' ≠ Tn) (h3 : T' ≠ T) : At w' b c T' := by
  obtain ⟨n1, n2⟩ := D.ne q h1
  have n3 : b ≠ bc := fun e => by subst e; exact At.neT q hw h3 rfl
  unfold At at *
  rw [h.dx.block b (lt_of_block q) (.inr ⟨by simp [n1, n2, n3], fun c' fr e => by rw [q] at e; simp at e; exact h2 e.2.1⟩)]
  exact q
/-- A block that is new may be written. -/
theorem Dc.new (h : Dc Tn T N bc bz ba bm w w') (hb : w.heap.size ≤ b) (hN : N ≤ b) (hG : w'.grownBy w'' (some b)) (q : At w' b c T') (hT : T' ≠ T) : Dc Tn T N bc bz ba bm w w'' := by
  refine ⟨h.dx.new hb (Dx.grown hG (List.mem_cons_self ..) hN), fun k => ?_⟩
  obtain ⟨e, k2⟩ := h.wk k
  exact ⟨e, At.grownAt k2 q hG hT.symm⟩
/-- A block that was not there at first is no loss. -/
theorem Dx.new1 {b1 : Nat} {xs : List Nat} (h : Dx Tn N xs w w') (h1 : w.heap.size ≤ b1) (k : Dx Tn N (b1 :: xs) w' w'') : Dx Tn N xs w w'' := h.new h1 k
end
def PrO (R : Nat) (ns : List Nd) (n s : Nat) (ns' : List Nd) (id : Nat) (er : Int) : Prop := PrW ns ns' R 0 er n 0 s id ∧ (¬ er = 0 → id = 0)
theorem pr_out {ns ns' : List Nd} {R n s id : Nat} {e : Int} (h : PrW ns ns' R 0 e n 0 s id) (hz : e = 0) : PrO R ns n s ns' id 0 := by
  subst hz
  exact ⟨h, fun z => absurd rfl z⟩
theorem pr_fail {ns ns' : List Nd} {R n s id : Nat} {e : Int} (h : PrW ns ns' R 0 e n 0 s id) (hz : ¬ e = 0) : PrO R ns n s ns' 0 e :=
  ⟨⟨by omega, h.pre, h.sta, h.err, fun z => absurd z hz, fun z => absurd z hz⟩, fun _ => rfl⟩

end Go.Proofs.Ytpamgfbecgjjeaa
