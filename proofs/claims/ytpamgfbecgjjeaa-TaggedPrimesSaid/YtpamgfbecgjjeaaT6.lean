/-
  What the statements about primes as members need. No program in it.
-/
import Derived.Test.YtpamgfbecgjjeaaT5
namespace Go.Proofs.Ytpamgfbecgjjeaa
set_option linter.unusedVariables false
set_option linter.unusedSimpArgs false
open Go Go.RowKit

def rwP (s n : Nat) : List Rw := (primesL s (n : Int)).map fun c => (⟨c, 0⟩ : Rw)
def memsP (s n : Nat) : List Int := memsT (rwP s n) (rwP s n).length
theorem memsT_all (l : List Rw) : memsT l l.length = ofI (l.map memI) := by unfold memsT; rw [List.take_length]
theorem memI_0 (c : Cb) : memI ⟨c, 0⟩ = (memC c : Int) := by
  unfold memI memRw
  simp
theorem of_nn {s : Nat} {n : Int} (h : ofB s n = true) : 0 ≤ n := by
  unfold ofB at h
  exact of_decide_eq_true (Bool.and_eq_true_iff.1 h).1
theorem tC_6 {n : Nat} (h : n ≤ 6) : tC n ≤ 17128 := by
  have : ∀ k, k < 7 → tC k ≤ 17128 := by decide
  exact this n (by omega)
section
variable {ns ns' : List Nd} {R n s id k : Nat} {er : Int}
theorem pr_ok (h : PrO R ns n s ns' id er) (hR : ns.length + tC n < R) : er = 0 ∧ M ns' id = PrS n s ∧ ns'.length ≤ ns.length + tC n := by
  have h1 := (h.1.sta rfl).ok (by rw [Nat.sub_zero]; exact hR)
  rw [Nat.sub_zero] at h1
  exact ⟨h1.1, h.1.m h1.1, h1.2⟩
theorem pr_is (hv : id < ns'.length + 2) (hm : M ns' id = PrS n s) : Is ns' id (memsP s n) := by
  unfold memsP
  rw [memsT_all]
  refine Is.ofS hv (inc_ofI _) fun x => ?_
  rw [mem_ofI]
  unfold rwP
  rw [List.map_map, List.mem_map]
  constructor
  · rintro ⟨y, hy, rfl⟩
    have hy' : M ns' id y := hy
    rw [hm] at hy'
    obtain ⟨c, hc, rfl⟩ := hy'
    exact ⟨c, mem_primesL.2 hc, memI_0 c⟩
  · rintro ⟨c, hc, e⟩
    have e : memI ⟨c, 0⟩ = x := e
    rw [memI_0] at e
    refine ⟨memC c, ?_, e.symm⟩
    show M ns' id (memC c)
    rw [hm]
    exact ⟨c, mem_primesL.1 hc, rfl⟩
theorem rwP_len : (rwP s n).length = (primesL s (n : Int)).length := by unfold rwP; rw [List.length_map]
theorem rwP_s (h : k < (primesL s (n : Int)).length) : ((primesL s (n : Int)).take k).map (fun c => (⟨c, 0⟩ : Rw)) ++ [(⟨(primesL s (n : Int)).getD k ⟨0, 0⟩, 0⟩ : Rw)] = ((primesL s (n : Int)).take (k + 1)).map fun c => (⟨c, 0⟩ : Rw) := by
  rw [List.take_succ_eq_append_getElem h, List.map_append, List.getD_eq_getElem?_getD, List.getElem?_eq_getElem h]
  rfl
theorem rwP_e : ((primesL s (n : Int)).take (primesL s (n : Int)).length).map (fun c => (⟨c, 0⟩ : Rw)) = rwP s n := by rw [List.take_length]; rfl
theorem prime_rt (h8 : n ≤ 8) {c : Cb} (h : c ∈ primesL s (n : Int)) : c.m < 256 ∧ c.v < 256 ∧ c.v &&& c.m = c.v := by
  obtain ⟨h1, _, _⟩ := (prime_iff h8).1 (mem_primesL.1 h)
  have h256 := pow_le256 h8
  have hv : c.v < 2 ^ n := lt_two.2 fun j hj => by rw [bit_of_right h1.v, lt_two.1 h1.m j hj, Bool.and_false]
  exact ⟨by have := h1.m; omega, by omega, h1.v⟩
theorem rwP_lt (h8 : n ≤ 8) : ∀ x, x ∈ rwP s n → x.c.m < 256 ∧ x.c.v < 256 ∧ x.o < 256 := fun x hx => by
  unfold rwP at hx
  obtain ⟨c, hc, rfl⟩ := List.mem_map.1 hx
  obtain ⟨h1, h2, _⟩ := prime_rt h8 hc
  exact ⟨h1, h2, by show 0 < 256; decide⟩
theorem memsP_len (h8 : n ≤ 8) : (memsP s n).length = (primesL s (n : Int)).length := by
  unfold memsP
  rw [memsT_all, ofI_nodup_len]
  · rw [List.length_map, rwP_len]
  · unfold rwP
    rw [List.map_map]
    refine List.pairwise_map.2 ?_
    refine List.Pairwise.imp_of_mem (fun {a b} ha hb hab e => ?_) (rising_primesL s (n : Int))
    have e : memI ⟨a, 0⟩ = memI ⟨b, 0⟩ := e
    rw [memI_0, memI_0] at e
    obtain ⟨a1, _, a3⟩ := prime_rt h8 ha
    obtain ⟨b1, _, b3⟩ := prime_rt h8 hb
    have := memC_inj a1 b1 a3 b3 (Int.ofNat_inj.1 e)
    rw [this, ltC_irrefl] at hab
    cases hab
end
theorem memsP_knows : memsP 14 2 = [2, 8] := by decide +kernel
theorem row_knows : rowR 65538 = ⟨⟨1, 1⟩, 1⟩ := by decide +kernel
theorem ok_knows : rwOk 65538 = true := by decide +kernel
theorem mem_knows : memRw ⟨⟨1, 1⟩, 1⟩ = 65538 := by decide +kernel

end Go.Proofs.Ytpamgfbecgjjeaa
