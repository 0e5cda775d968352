/-
  What the statements about primes as members need. No program in it.
-/
import Derived.Test.YtpamgfbecgjjeaaT5
namespace Go.Proofs.Ytpamgfbecgjjeaa
set_option linter.unusedVariables false
set_option linter.unusedSimpArgs false
open Go Go.RowKit

def rwP (s n : Nat) : List Rw := (primesL s (n : Int)).map fun c => (⟨c, 0⟩ : Rw)
def memsP (s n : Nat) : List Int := memsT (rwP s n) (rwP s n).length
theorem memsT_all (l : List Rw) : memsT l l.length = ofI (l.map memI) := by unfold memsT; rw [List.take_length]
theorem memI_0 (c : Cb) : memI ⟨c, 0⟩ = (memC c : Int) := by
  unfold memI memRw
  simp
theorem tC_6 {n : Nat} (h : n ≤ 6) : tC n ≤ 17128 := by
  have : ∀ k, k < 7 → tC k ≤ 17128 := by decide
  exact this n (by omega)
section
variable {ns ns' : List Nd} {R n s id k : Nat} {er : Int}
theorem pr_ok (h : PrO R ns n s ns' id er) (hR : ns.length + tC n < R) : er = 0 ∧ M ns' id = PrS n s ∧ ns'.length ≤ ns.length + tC n := by
  have h1 := (h.1.sta rfl).ok (by rw [Nat.sub_zero]; exact hR)
  rw [Nat.sub_zero] at h1
  exact ⟨h1.1, h.1.m h1.1, h1.2⟩
theorem pr_is (hv : id < ns'.length + 2) (hm : M ns' id = PrS n s) : Is ns' id (memsP s n) := by
  unfold memsP
  rw [memsT_all]
  refine Is.ofS hv (inc_ofI _) fun x => ?_
  rw [mem_ofI]
  unfold rwP
  rw [List.map_map, List.mem_map]
  constructor
  · rintro ⟨y, hy, rfl⟩
    have hy' : M ns' id y := hy
    rw [hm] at hy'
    obtain ⟨c, hc, rfl⟩ := hy'
    exact ⟨c, mem_primesL.2 hc, memI_0 c⟩
  · rintro ⟨c, hc, e⟩
    have e : memI ⟨c, 0⟩ = x := e
    rw [memI_0] at e
    refine ⟨memC c, ?_, e.symm⟩
    show M ns' id (memC c)
    rw [hm]
    exact ⟨c, mem_primesL.1 hc, rfl⟩
end
theorem memsP_knows : memsP 14 2 = [2, 8] := by decide +kernel
theorem row_knows : rowR 65538 = ⟨⟨1, 1⟩, 1⟩ := by decide +kernel
theorem ok_knows : rwOk 65538 = true := by decide +kernel
theorem mem_knows : memRw ⟨⟨1, 1⟩, 1⟩ = 65538 := by decide +kernel

end Go.Proofs.Ytpamgfbecgjjeaa
