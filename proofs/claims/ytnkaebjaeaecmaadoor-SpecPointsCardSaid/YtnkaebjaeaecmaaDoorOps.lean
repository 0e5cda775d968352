/-
  One law for each operation of the model that our programs use: what its run comes to.
-/
import Derived.Test.YtnkaebjaeaecmaaDoorCore
namespace Go.Proofs.YtnkaebjaeaecmaaDoor
set_option linter.unusedVariables false
set_option linter.unusedSimpArgs false
open Go Go.RowKit

/-! ### Facts of the type table, as closed terms -/

def scalarB (P : Program) (t : TypeId) : Bool :=
  match P.underlying t with
  | some (.struct _) | some (.array _ _) | none => false
  | _ => (P.info? t).any fun i => i.size == 1

def aggN (P : Program) (t : TypeId) : Option Nat :=
  match P.underlying t with
  | some (.struct _) | some (.array _ _) => (P.info? t).map (·.size)
  | _ => none

def fieldO (P : Program) (t : TypeId) (k : Nat) : Option Nat :=
  match P.underlying t with
  | some (.struct fs) => (fs[k]?).bind fun fd => if (P.info? fd.type).any (fun i => i.size != 0) then some fd.offset else none
  | _ => none

/-- Of a slice type: the element's type, its cells, its bytes. -/
def elemI (P : Program) (t : TypeId) : Option (TypeId × Nat × Nat) :=
  match P.underlying t with
  | some (.slice e) => (P.info? e).map fun i => (e, i.size, i.bytes)
  | _ => none

def arrI (P : Program) (t : TypeId) : Option (Nat × Nat) :=
  match P.underlying t with
  | some (.array n e) => (P.info? e).map fun i => (n, i.size)
  | _ => none

def zeroI (P : Program) (t : TypeId) : Option Value := (P.info? t).bind (·.zero)

def callB (P : Program) (g : Nat) : Bool :=
  match P.funcs[g]? with
  | some fn => !(fn.name == "runtime.NumGoroutine") && fn.body.isSome
  | none => false

theorem aggN_spec {P : Program} {t : TypeId} {k : Nat} (h : aggN P t = some k) : (isAgg t).run P = Sem.run P (pure true) ∧ (sizeOf t).run P = Sem.run P (pure k) := by
  unfold aggN at h
  cases hu : P.underlying t with
  | none => simp [hu] at h
  | some d =>
    cases hi : P.info? t with
    | none => cases d <;> simp [hu, hi] at h
    | some i =>
      cases d <;> simp [hu, hi] at h
      all_goals
        subst h
        exact ⟨by funext w; simp [isAgg, run_underlying hu], by funext w; simp [sizeOf, typeInfo, hi]⟩

theorem scalarB_spec {P : Program} {t : TypeId} (h : scalarB P t = true) : (isAgg t).run P = Sem.run P (pure false) ∧ (sizeOf t).run P = Sem.run P (pure 1) := by
  unfold scalarB at h
  cases hu : P.underlying t with
  | none => simp [hu] at h
  | some d =>
    cases hi : P.info? t with
    | none => cases d <;> simp [hu, hi] at h
    | some i =>
      cases d <;> simp [hu, hi] at h
      all_goals exact ⟨by funext w; simp [isAgg, run_underlying hu], by funext w; simp [sizeOf, typeInfo, hi, h]⟩

section
variable {P : Program} {f : Nat → Value} {w : World} {d : Option Nat} {ty : TypeId} {ps : String} {af : Array Edge} {g : Option (Nat × Bool)} {x y c : Operand}

theorem r_move {v : Value} (h : evF f x = v) : (execOp (evF f) ⟨d, .move x, ty, ps, af, g⟩).run P w = .ok (.value v) w := by subst h; rfl
theorem r_assign {v : Value} (h : evF f x = v) : (execOp (evF f) ⟨d, .assign x, ty, ps, af, g⟩).run P w = .ok (.value v) w := by subst h; rfl
theorem r_pick_t {v : Value} (hc : evF f c = .bool true) (h : evF f x = v) : (execOp (evF f) ⟨d, .pick c x y, ty, ps, af, g⟩).run P w = .ok (.value v) w := by
  subst h; simp [execOp, hc, asBool]
theorem r_pick_f {v : Value} (hc : evF f c = .bool false) (h : evF f y = v) : (execOp (evF f) ⟨d, .pick c x y, ty, ps, af, g⟩).run P w = .ok (.value v) w := by
  subst h; simp [execOp, hc, asBool]

theorem r_nilCheck_ptr {a : Addr} (h : evF f x = .pointer (some a)) : (execOp (evF f) ⟨d, .nilCheck x, ty, ps, af, g⟩).run P w = .ok (.value (.pointer (some a))) w := by
  simp [execOp, h]

/-! #### whole numbers -/
variable {t t2 : TypeId} {k : IntKind} {a b : Int}

theorem r_add (hx : evF f x = .int k a) (hy : evF f y = .int k b) : (execOp (evF f) ⟨d, .binOp .add t x y t2, ty, ps, af, g⟩).run P w = .ok (.value (.int k (k.wrap (a + b)))) w := by
  simp [execOp, hx, hy, eqGuard, binOp, Op.intArith]
theorem r_sub (hx : evF f x = .int k a) (hy : evF f y = .int k b) : (execOp (evF f) ⟨d, .binOp .sub t x y t2, ty, ps, af, g⟩).run P w = .ok (.value (.int k (k.wrap (a - b)))) w := by
  simp [execOp, hx, hy, eqGuard, binOp, Op.intArith]
theorem r_mul (hx : evF f x = .int k a) (hy : evF f y = .int k b) : (execOp (evF f) ⟨d, .binOp .mul t x y t2, ty, ps, af, g⟩).run P w = .ok (.value (.int k (k.wrap (a * b)))) w := by
  simp [execOp, hx, hy, eqGuard, binOp, Op.intArith]
theorem r_quo (hx : evF f x = .int k a) (hy : evF f y = .int k b) (hb : b ≠ 0) : (execOp (evF f) ⟨d, .binOp .quo t x y t2, ty, ps, af, g⟩).run P w = .ok (.value (.int k (k.wrap (a.tdiv b)))) w := by
  simp [execOp, hx, hy, eqGuard, binOp, Op.intDiv, hb]
theorem r_rem (hx : evF f x = .int k a) (hy : evF f y = .int k b) (hb : b ≠ 0) : (execOp (evF f) ⟨d, .binOp .rem t x y t2, ty, ps, af, g⟩).run P w = .ok (.value (.int k (a.tmod b))) w := by
  simp [execOp, hx, hy, eqGuard, binOp, Op.intDiv, hb]

theorem beqI (a b : Int) : (a == b) = decide (a = b) := Bool.eq_iff_iff.2 (by simp)

theorem r_eql (hx : evF f x = .int k a) (hy : evF f y = .int k b) : (execOp (evF f) ⟨d, .binOp .eql t x y t2, ty, ps, af, g⟩).run P w = .ok (.value (.bool (decide (a = b)))) w := by
  simp [execOp, hx, hy, eqGuard, binOp, Op.intCmp, beqI]
theorem r_neq (hx : evF f x = .int k a) (hy : evF f y = .int k b) : (execOp (evF f) ⟨d, .binOp .neq t x y t2, ty, ps, af, g⟩).run P w = .ok (.value (.bool (decide (¬ a = b)))) w := by
  simp [execOp, hx, hy, eqGuard, binOp, Op.intCmp, bne, beqI]
theorem r_lss (hx : evF f x = .int k a) (hy : evF f y = .int k b) : (execOp (evF f) ⟨d, .binOp .lss t x y t2, ty, ps, af, g⟩).run P w = .ok (.value (.bool (decide (a < b)))) w := by
  simp [execOp, hx, hy, eqGuard, binOp, Op.intCmp]
theorem r_leq (hx : evF f x = .int k a) (hy : evF f y = .int k b) : (execOp (evF f) ⟨d, .binOp .leq t x y t2, ty, ps, af, g⟩).run P w = .ok (.value (.bool (decide (a ≤ b)))) w := by
  simp [execOp, hx, hy, eqGuard, binOp, Op.intCmp]
theorem r_gtr (hx : evF f x = .int k a) (hy : evF f y = .int k b) : (execOp (evF f) ⟨d, .binOp .gtr t x y t2, ty, ps, af, g⟩).run P w = .ok (.value (.bool (decide (b < a)))) w := by
  simp [execOp, hx, hy, eqGuard, binOp, Op.intCmp]
theorem r_geq (hx : evF f x = .int k a) (hy : evF f y = .int k b) : (execOp (evF f) ⟨d, .binOp .geq t x y t2, ty, ps, af, g⟩).run P w = .ok (.value (.bool (decide (b ≤ a)))) w := by
  simp [execOp, hx, hy, eqGuard, binOp, Op.intCmp]

theorem wrap_in {z : Int} (h1 : -9223372036854775808 ≤ z) (h2 : z ≤ 9223372036854775807) : IntKind.i64.wrap z = z := by
  rw [IntKind.wrap_i64]; omega

theorem r_addI (hx : evF f x = .int .i64 a) (hy : evF f y = .int .i64 b) (h1 : -9223372036854775808 ≤ a + b) (h2 : a + b ≤ 9223372036854775807) :
    (execOp (evF f) ⟨d, .binOp .add t x y t2, ty, ps, af, g⟩).run P w = .ok (.value (.int .i64 (a + b))) w := by rw [r_add hx hy, wrap_in h1 h2]
theorem r_subI (hx : evF f x = .int .i64 a) (hy : evF f y = .int .i64 b) (h1 : -9223372036854775808 ≤ a - b) (h2 : a - b ≤ 9223372036854775807) :
    (execOp (evF f) ⟨d, .binOp .sub t x y t2, ty, ps, af, g⟩).run P w = .ok (.value (.int .i64 (a - b))) w := by rw [r_sub hx hy, wrap_in h1 h2]
/-- The greatest natural number that a kind holds, and one more. -/
def topN : IntKind → Nat
  | .i8 => 1 | .i16 => 1 | .i32 => 2147483648 | .i64 => 9223372036854775808
  | .u8 => 256 | .u16 => 65536 | .u32 => 4294967296 | .u64 => 18446744073709551616

theorem wrap_nat {k : IntKind} {m : Nat} (h : m < topN k) : k.wrap (m : Int) = (m : Int) := by
  cases k <;> simp only [topN] at h
  · obtain rfl : m = 0 := by omega
    rfl
  · obtain rfl : m = 0 := by omega
    rfl
  · rw [IntKind.wrap_i32]; omega
  · rw [IntKind.wrap_i64]; omega
  · rw [IntKind.wrap_u8]; omega
  · rw [IntKind.wrap_u16]; omega
  · rw [IntKind.wrap_u32]; omega
  · rw [IntKind.wrap_u64]; omega

variable {m n : Nat}

theorem r_quoN (hx : evF f x = .int k (m : Int)) (hy : evF f y = .int k b) (hb : b = (n : Int)) (hn : 0 < n) (hm : m < topN k) :
    (execOp (evF f) ⟨d, .binOp .quo t x y t2, ty, ps, af, g⟩).run P w = .ok (.value (.int k ((m / n : Nat) : Int))) w := by
  subst hb
  rw [r_quo hx hy (by omega)]
  have e : (m : Int).tdiv (n : Int) = ((m / n : Nat) : Int) := by rw [Int.tdiv_eq_ediv_of_nonneg (by omega)]; simp
  rw [e, wrap_nat (Nat.lt_of_le_of_lt (Nat.div_le_self _ _) hm)]
theorem r_remN (hx : evF f x = .int k (m : Int)) (hy : evF f y = .int k b) (hb : b = (n : Int)) (hn : 0 < n) :
    (execOp (evF f) ⟨d, .binOp .rem t x y t2, ty, ps, af, g⟩).run P w = .ok (.value (.int k ((m % n : Nat) : Int))) w := by
  subst hb
  rw [r_rem hx hy (by omega)]
  have e : (m : Int).tmod (n : Int) = ((m % n : Nat) : Int) := by rw [Int.tmod_eq_emod_of_nonneg (by omega)]; simp
  rw [e]
theorem r_addN (hx : evF f x = .int k (m : Int)) (hy : evF f y = .int k b) (hb : b = (n : Int)) (hm : m + n < topN k) :
    (execOp (evF f) ⟨d, .binOp .add t x y t2, ty, ps, af, g⟩).run P w = .ok (.value (.int k ((m + n : Nat) : Int))) w := by
  subst hb
  rw [r_add hx hy]
  have e : (m : Int) + (n : Int) = ((m + n : Nat) : Int) := by simp
  rw [e, wrap_nat hm]
theorem r_mulN (hx : evF f x = .int k (m : Int)) (hy : evF f y = .int k b) (hb : b = (n : Int)) (hm : m * n < topN k) :
    (execOp (evF f) ⟨d, .binOp .mul t x y t2, ty, ps, af, g⟩).run P w = .ok (.value (.int k ((m * n : Nat) : Int))) w := by
  subst hb
  rw [r_mul hx hy]
  have e : (m : Int) * (n : Int) = ((m * n : Nat) : Int) := by simp
  rw [e, wrap_nat hm]

/-! #### bits of natural numbers -/
theorem ofInt_nat (B m : Nat) (h : m < 2 ^ B) : (BitVec.ofInt B (m : Int)).toNat = m := by
  rw [BitVec.toNat_ofInt]
  have e : ((m : Int) % ((2 ^ B : Nat) : Int)).toNat = m := by
    rw [Int.emod_eq_of_lt (by omega) (by exact_mod_cast h)]; simp
  exact e

theorem topN_le (k : IntKind) : topN k ≤ 2 ^ k.bits := by cases k <;> simp [topN, IntKind.bits]
theorem topN_two (k : IntKind) : ∃ j, topN k = 2 ^ j := by
  cases k
  · exact ⟨0, rfl⟩
  · exact ⟨0, rfl⟩
  · exact ⟨31, rfl⟩
  · exact ⟨63, rfl⟩
  · exact ⟨8, rfl⟩
  · exact ⟨16, rfl⟩
  · exact ⟨32, rfl⟩
  · exact ⟨64, rfl⟩

theorem and_top {k : IntKind} (hm : m < topN k) : m &&& n < topN k := by
  obtain ⟨j, e⟩ := topN_two k
  rw [e] at hm ⊢
  rw [Nat.and_comm]
  exact Nat.and_lt_two_pow _ hm
theorem or_top {k : IntKind} (hm : m < topN k) (hn : n < topN k) : m ||| n < topN k := by
  obtain ⟨j, e⟩ := topN_two k
  rw [e] at hm hn ⊢
  exact Nat.or_lt_two_pow hm hn
theorem xor_top {k : IntKind} (hm : m < topN k) (hn : n < topN k) : m ^^^ n < topN k := by
  obtain ⟨j, e⟩ := topN_two k
  rw [e] at hm hn ⊢
  exact Nat.xor_lt_two_pow hm hn

/-- Go's '&^'. -/
def andNot (m n : Nat) : Nat := m ^^^ (m &&& n)

theorem andNot_testBit (m n i : Nat) : (andNot m n).testBit i = (m.testBit i && !n.testBit i) := by
  simp only [andNot, Nat.testBit_xor, Nat.testBit_and]
  cases m.testBit i <;> cases n.testBit i <;> rfl
theorem andNot_top {k : IntKind} (hm : m < topN k) : andNot m n < topN k := xor_top hm (and_top hm)
theorem andNot_le (m n : Nat) : andNot m n ≤ m := by
  have e : andNot m n = m &&& andNot m n := by
    refine Nat.eq_of_testBit_eq fun i => ?_
    rw [Nat.testBit_and, andNot_testBit]
    cases m.testBit i <;> rfl
  rw [e]
  exact Nat.and_le_left

theorem ofInt_top {k : IntKind} {m : Nat} (h : m < topN k) : (BitVec.ofInt k.bits (m : Int)).toNat = m := ofInt_nat _ _ (Nat.lt_of_lt_of_le h (topN_le k))

theorem r_and (hx : evF f x = .int k (m : Int)) (hy : evF f y = .int k b) (hb : b = (n : Int)) (hm : m < topN k) (hn : n < topN k) :
    (execOp (evF f) ⟨d, .binOp .and t x y t2, ty, ps, af, g⟩).run P w = .ok (.value (.int k ((m &&& n : Nat) : Int))) w := by
  subst hb
  have e : (BitVec.ofInt k.bits (m : Int) &&& BitVec.ofInt k.bits (n : Int)).toNat = m &&& n := by
    rw [BitVec.toNat_and, ofInt_top hm, ofInt_top hn]
  simp only [execOp, hx, hy, eqGuard, binOp, Op.intBits, e, wrap_nat (and_top (n := n) hm)]
  simp
theorem r_or (hx : evF f x = .int k (m : Int)) (hy : evF f y = .int k b) (hb : b = (n : Int)) (hm : m < topN k) (hn : n < topN k) :
    (execOp (evF f) ⟨d, .binOp .or t x y t2, ty, ps, af, g⟩).run P w = .ok (.value (.int k ((m ||| n : Nat) : Int))) w := by
  subst hb
  have e : (BitVec.ofInt k.bits (m : Int) ||| BitVec.ofInt k.bits (n : Int)).toNat = m ||| n := by
    rw [BitVec.toNat_or, ofInt_top hm, ofInt_top hn]
  simp only [execOp, hx, hy, eqGuard, binOp, Op.intBits, e, wrap_nat (or_top hm hn)]
  simp
theorem r_andNot (hx : evF f x = .int k (m : Int)) (hy : evF f y = .int k b) (hb : b = (n : Int)) (hm : m < topN k) (hn : n < topN k) :
    (execOp (evF f) ⟨d, .binOp .andNot t x y t2, ty, ps, af, g⟩).run P w = .ok (.value (.int k ((andNot m n : Nat) : Int))) w := by
  subst hb
  have e : (BitVec.ofInt k.bits (m : Int) &&& ~~~BitVec.ofInt k.bits (n : Int)).toNat = andNot m n := by
    have h1 := ofInt_nat _ _ (Nat.lt_of_lt_of_le hm (topN_le k))
    have h2 := ofInt_nat _ _ (Nat.lt_of_lt_of_le hn (topN_le k))
    refine Nat.eq_of_testBit_eq fun i => ?_
    rw [andNot_testBit, BitVec.testBit_toNat, BitVec.getLsbD_and, BitVec.getLsbD_not]
    rw [← BitVec.testBit_toNat, ← BitVec.testBit_toNat, h1, h2]
    by_cases hi : i < k.bits
    · simp [hi]
    · have : m.testBit i = false := Nat.testBit_lt_two_pow (Nat.lt_of_lt_of_le (Nat.lt_of_lt_of_le hm (topN_le k)) (Nat.pow_le_pow_right (by omega) (by omega)))
      simp [this]
  simp only [execOp, hx, hy, eqGuard, binOp, Op.intBits, e, wrap_nat (andNot_top hm)]
  simp

def bitsN : IntKind → Nat
  | .i8 => 0 | .i16 => 0 | .i32 => 31 | .i64 => 63 | .u8 => 8 | .u16 => 16 | .u32 => 32 | .u64 => 64
theorem shl1 (k : IntKind) (j : Nat) (h : j < bitsN k) : 1 * 2 ^ j < topN k := by
  rw [Nat.one_mul]
  have e : topN k = 2 ^ bitsN k := by cases k <;> rfl
  rw [e]
  exact Nat.pow_lt_pow_right (by decide) h

theorem r_shl {yk : IntKind} (hx : evF f x = .int k (m : Int)) (hy : evF f y = .int yk b) (hb : 0 ≤ b) (hlt : b ≤ k.bits) (hm : m * 2 ^ b.toNat < topN k) :
    (execOp (evF f) ⟨d, .binOp .shl t x y t2, ty, ps, af, g⟩).run P w = .ok (.value (.int k ((m * 2 ^ b.toNat : Nat) : Int))) w := by
  have hn : ¬ b < 0 := by omega
  have hmin : min b.toNat k.bits = b.toNat := Nat.min_eq_left (by omega)
  have e : (m : Int) * 2 ^ b.toNat = ((m * 2 ^ b.toNat : Nat) : Int) := by simp
  simp [execOp, hx, hy, eqGuard, binOp, Op.shift, hn, hmin]
  rw [e, wrap_nat hm]
theorem r_shr {yk : IntKind} (hx : evF f x = .int k (m : Int)) (hy : evF f y = .int yk b) (hb : 0 ≤ b) (hlt : b ≤ k.bits) :
    (execOp (evF f) ⟨d, .binOp .shr t x y t2, ty, ps, af, g⟩).run P w = .ok (.value (.int k ((m / 2 ^ b.toNat : Nat) : Int))) w := by
  have hn : ¬ b < 0 := by omega
  have hmin : min b.toNat k.bits = b.toNat := Nat.min_eq_left (by omega)
  have e : (m : Int).fdiv (2 ^ b.toNat) = ((m / 2 ^ b.toNat : Nat) : Int) := by
    have e2 : (2 : Int) ^ b.toNat = ((2 ^ b.toNat : Nat) : Int) := by simp
    have h0 : (0 : Int) ≤ ((2 ^ b.toNat : Nat) : Int) := Int.natCast_nonneg _
    rw [e2, Int.fdiv_eq_ediv_of_nonneg _ h0]
    simp
  simp [execOp, hx, hy, eqGuard, binOp, Op.shift, hn, hmin, e]

theorem r_not {b : Bool} (h : evF f x = .bool b) : (execOp (evF f) ⟨d, .unOp .not t x, ty, ps, af, g⟩).run P w = .ok (.value (.bool (!b))) w := by
  simp [execOp, h, Op.unary]
theorem r_neqB {a b : Bool} (hx : evF f x = .bool a) (hy : evF f y = .bool b) (ht : P.underlying t = some .bool) : (execOp (evF f) ⟨d, .binOp .neq t x y t2, ty, ps, af, g⟩).run P w = .ok (.value (.bool (decide (¬ a = b)))) w := by
  have e : decide (¬ a = b) = !(a == b) := by cases a <;> cases b <;> rfl
  rw [e]
  have h := run_equalIn_bool' (P := P) w 9999 t a b ht
  simp [execOp, hx, hy, eqGuard, binOp, Op.equal, Op.maxDepth, h]

/-! #### parts of tuples -/
variable {v0 v1 v2 v3 : Value}
theorem r_ext2_0 (h : evF f x = .tuple #[v0, v1]) : (execOp (evF f) ⟨d, .extract x 0, ty, ps, af, g⟩).run P w = .ok (.value v0) w := by simp [execOp, h, Instr.extract]
theorem r_ext2_1 (h : evF f x = .tuple #[v0, v1]) : (execOp (evF f) ⟨d, .extract x 1, ty, ps, af, g⟩).run P w = .ok (.value v1) w := by simp [execOp, h, Instr.extract]
theorem r_ext3_0 (h : evF f x = .tuple #[v0, v1, v2]) : (execOp (evF f) ⟨d, .extract x 0, ty, ps, af, g⟩).run P w = .ok (.value v0) w := by simp [execOp, h, Instr.extract]
theorem r_ext3_1 (h : evF f x = .tuple #[v0, v1, v2]) : (execOp (evF f) ⟨d, .extract x 1, ty, ps, af, g⟩).run P w = .ok (.value v1) w := by simp [execOp, h, Instr.extract]
theorem r_ext3_2 (h : evF f x = .tuple #[v0, v1, v2]) : (execOp (evF f) ⟨d, .extract x 2, ty, ps, af, g⟩).run P w = .ok (.value v2) w := by simp [execOp, h, Instr.extract]
/-! #### conversions -/
theorem r_conv {k' : IntKind} {desc : TypeDesc} (h : evF f x = .int k a) (hs : P.underlying t = some desc) (ht : P.underlying t2 = some (.int k')) :
    (execOp (evF f) ⟨d, .convert t t2 x, ty, ps, af, g⟩).run P w = .ok (.value (.int k' (k'.wrap a))) w := by
  simp [execOp, h, convert, run_underlying hs, run_underlying ht, Conv.intToInt]
theorem r_convN {k' : IntKind} {desc : TypeDesc} (h : evF f x = .int k (m : Int)) (hs : P.underlying t = some desc) (ht : P.underlying t2 = some (.int k')) (hm : m < topN k') :
    (execOp (evF f) ⟨d, .convert t t2 x, ty, ps, af, g⟩).run P w = .ok (.value (.int k' (m : Int))) w := by rw [r_conv h hs ht, wrap_nat hm]

/-! #### calls -/
theorem run_callFunc {P : Program} {w : World} {q : Nat} {vs : Array Value} (h : callB P q = true) : (callFunc q vs).run P w = .ok (.enter q vs) w := by
  unfold callB at h
  cases hf : P.funcs[q]? with
  | none => simp [hf] at h
  | some fn =>
    simp only [hf, Bool.and_eq_true, Bool.not_eq_true', beq_eq_false_iff_ne, ne_eq] at h
    obtain ⟨b, hb⟩ := Option.isSome_iff_exists.1 h.2
    simp [callFunc, hf, h.1, hb]

theorem r_call {q : Nat} {args : Array Operand} {tys : Array TypeId} {first cap : Array Value} {vs : Array Value} (hq : evF f c = .func (.func q) first cap) (hc : callB P q = true) (hv : (first ++ args.map (evF f)) ++ cap = vs) :
    (execOp (evF f) ⟨d, .call ⟨.value c, args, tys⟩, ty, ps, af, g⟩).run P w = .ok (.enter q vs) w := by
  subst hv
  simp [execOp, resolve, hq, Deferred.ofValue, invoke, run_callFunc hc]

theorem r_call0 {q : Nat} {tys : Array TypeId} (hc : callB P q = true) :
    (execOp (evF f) ⟨d, .call ⟨.value (.func q), #[], tys⟩, ty, ps, af, g⟩).run P w = .ok (.enter q #[]) w := r_call rfl hc (by simp)
theorem r_call1 {q : Nat} {tys : Array TypeId} {x0 : Operand} (hc : callB P q = true) (h0 : evF f x0 = v0) :
    (execOp (evF f) ⟨d, .call ⟨.value (.func q), #[x0], tys⟩, ty, ps, af, g⟩).run P w = .ok (.enter q #[v0]) w := r_call rfl hc (by simp [h0])
theorem r_call2 {q : Nat} {tys : Array TypeId} {x0 x1 : Operand} (hc : callB P q = true) (h0 : evF f x0 = v0) (h1 : evF f x1 = v1) :
    (execOp (evF f) ⟨d, .call ⟨.value (.func q), #[x0, x1], tys⟩, ty, ps, af, g⟩).run P w = .ok (.enter q #[v0, v1]) w := r_call rfl hc (by simp [h0, h1])
theorem r_call3 {q : Nat} {tys : Array TypeId} {x0 x1 x2 : Operand} (hc : callB P q = true) (h0 : evF f x0 = v0) (h1 : evF f x1 = v1) (h2 : evF f x2 = v2) :
    (execOp (evF f) ⟨d, .call ⟨.value (.func q), #[x0, x1, x2], tys⟩, ty, ps, af, g⟩).run P w = .ok (.enter q #[v0, v1, v2]) w := r_call rfl hc (by simp [h0, h1, h2])
theorem r_call4 {q : Nat} {tys : Array TypeId} {x0 x1 x2 x3 : Operand} (hc : callB P q = true) (h0 : evF f x0 = v0) (h1 : evF f x1 = v1) (h2 : evF f x2 = v2) (h3 : evF f x3 = v3) :
    (execOp (evF f) ⟨d, .call ⟨.value (.func q), #[x0, x1, x2, x3], tys⟩, ty, ps, af, g⟩).run P w = .ok (.enter q #[v0, v1, v2, v3]) w := r_call rfl hc (by simp [h0, h1, h2, h3])
theorem r_callv2 {q : Nat} {tys : Array TypeId} {x0 x1 : Operand} (hq : evF f c = .func (.func q) #[] #[]) (hc : callB P q = true) (h0 : evF f x0 = v0) (h1 : evF f x1 = v1) :
    (execOp (evF f) ⟨d, .call ⟨.value c, #[x0, x1], tys⟩, ty, ps, af, g⟩).run P w = .ok (.enter q #[v0, v1]) w := r_call hq hc (by simp [h0, h1])

end

/-! ### Equality of arrays -/
theorem run_for_all {P : Program} (w : World) (E : Value → Value → Sem Bool) (A B : Nat → Sem Value) (r : Nat → Bool) (x y : Nat → Value) (n : Nat)
    (hA : ∀ i, i < n → (A i).run P w = .ok (x i) w) (hB : ∀ i, i < n → (B i).run P w = .ok (y i) w) (hE : ∀ i, i < n → (E (x i) (y i)).run P w = .ok (r i) w) :
    Sem.run P (do
      for i in [0:n] do
        if !(← E (← A i) (← B i)) then return false
      pure true) w = .ok ((List.range n).all r) w := by
  simp only [Std.Legacy.Range.forIn_eq_forIn_range', Std.Legacy.Range.size, Nat.sub_zero, Nat.add_sub_cancel, Nat.div_one]
  rw [List.range_eq_range']
  have key : ∀ l : List Nat, (∀ i ∈ l, i < n) → Sem.run P (forIn l ((none, ()) : Option Bool × Unit) fun i _ => do
        let a ← A i
        let b ← B i
        let q ← E a b
        if (!q) = true then pure (ForInStep.done (some false, ())) else pure (ForInStep.yield (none, ()))) w = .ok (if l.all r then (none, ()) else (some false, ())) w := by
    intro l
    induction l with
    | nil => intro _; simp
    | cons i l ih =>
      intro hl
      have hi := hl i (List.mem_cons_self ..)
      have ih' := ih (fun j hj => hl j (List.mem_cons_of_mem _ hj))
      simp only [List.forIn_cons, Sem.run_bind, hA i hi, hB i hi, hE i hi, Result.andThen_ok, List.all_cons]
      by_cases hr : r i = true
      · simpa [hr] using ih'
      · simp [hr]
  rw [Sem.run_bind, key (List.range' 0 n) (by simp), Result.andThen_ok]
  cases (List.range' 0 n).all r <;> simp

theorem run_equalIn_arr {P : Program} (w : World) (d n : Nat) (t e : TypeId) (xs ys : Array Value) (x y : Nat → Value) (r : Nat → Bool) (ht : P.underlying t = some (.array n e)) (hs : (P.info? e).map (·.size) = some 1) (ha : (isAgg e).run P w = .ok false w)
    (hx : ∀ i, i < n → xs[i]? = some (x i)) (hy : ∀ i, i < n → ys[i]? = some (y i)) (hE : ∀ i, i < n → (Op.equalIn d e (x i) (y i)).run P w = .ok (r i) w) :
    (Op.equalIn (d + 1) t (.agg xs) (.agg ys)).run P w = .ok ((List.range n).all r) w := by
  obtain ⟨j5, hj5, hs5⟩ := Option.map_eq_some_iff.1 hs
  have h := run_for_all (P := P) w (Op.equalIn d e) (fun i => part e xs (i * 1)) (fun i => part e ys (i * 1)) r x y n
    (fun i hi => by simp [part, ha, hx i hi]) (fun i hi => by simp [part, ha, hy i hi]) hE
  simp only [Op.equalIn, Sem.run_bind, run_underlying ht, Result.andThen_ok, sizeOf, typeInfo]
  simp only [run_program, hj5, Sem.run_pure, Result.andThen_ok, hs5]
  simp only [Sem.run_bind] at h
  exact h

end Go.Proofs.YtnkaebjaeaecmaaDoor
