/- The core of our own way of walking (no program in it, no conditions): frames as functions, code by its ways out, regions that draw their order by taking what only reads first. One law for each operation of the model that our programs use: what its run comes to. One law for each operation that touche -/
import Derived.WalkKit
import Derived.OrdersHeld
import Derived.Deep.LoopGhost
import Derived.KernelRfl
import Derived.ProofKit
import Derived.OpenShut
import Derived.Laws.IdiomArrays
import Derived.Lib.SmallJoins
import Derived.Deep.Slices
namespace Go.Proofs.YtedeonkjellcpaaGreatDoor
set_option linter.unusedVariables false
set_option linter.unusedSimpArgs false
section
open Go Go.RowKit
abbrev am:= @Nat.le_refl
abbrev my:= @Nat.zero_le
abbrev go:= @Nat.le_trans
abbrev so:= @Int.toNat_natCast
abbrev th:= @Bool.and_eq_true
abbrev an:= @Option.map_eq_some_iff
abbrev me:= @List.getD_eq_getElem?_getD
abbrev An:= @List.length_append
abbrev aa1:= @Nat.le_of_eq
abbrev we:= @List.getElem?_eq_getElem
abbrev aah:= @List.mem_append
abbrev aa6:= @List.mem_map
abbrev aaY:= @Option.some.inj
abbrev abd:= @Nat.one_mul
abbrev Do:= @Option.bind_eq_some_iff
abbrev aaL:= @List.mem_singleton
abbrev aa3:= @Nat.testBit_and
abbrev aa2:= @List.all_eq_true
abbrev aa0:= @Bool.eq_false_iff
abbrev aa4:= @List.length_take
abbrev aba:= @List.mem_range
abbrev aaz:= @Nat.eq_of_testBit_eq
abbrev aa5:= @List.length_cons
abbrev aaN:= @Decidable.of_not_not
abbrev aa7:= @List.take_length
abbrev aaK:= @Nat.lt_succ_iff_lt_or_eq
abbrev aa9:= @List.mem_cons_self
abbrev abl:= @List.mem_cons
abbrev aa8:= @Nat.pow_le_pow_right
abbrev abe:= @Nat.lt_of_lt_of_le
abbrev abf:= @List.mem_cons_of_mem
abbrev abu:= @Bool.true_and
abbrev abq:= @Bool.and_false
abbrev abm:= @List.append_assoc
abbrev abh:= @Nat.testBit_two_pow
abbrev abo:= @Nat.two_pow_pos
abbrev aby:= @List.length_map
abbrev abJ:= @Nat.add_mul
abbrev abj:= @Int.eq_ofNat_of_zero_le
abbrev abw:= @List.length_drop
abbrev abt:= @List.take_add_one
abbrev abA:= @Bool.eq_iff_iff
abbrev abx:= @Nat.zero_testBit
abbrev abr:= @Nat.lt_of_le_of_lt
abbrev abn:= @Nat.mul_le_mul_right
abbrev abv:= @List.flatMap_cons
abbrev abD:= @Bool.false_and
abbrev abp:= @List.length_singleton
abbrev abO:= @Nat.lt_or_ge
abbrev abP:= @Nat.zero_add
abbrev abI:= @Nat.testBit_or
abbrev abF:= @Bool.or_eq_true
abbrev abG:= @List.nil_append
abbrev abN:= @Bool.and_true
abbrev ab4:= @Nat.mul_one
abbrev abK:= @List.append_nil
abbrev abH:= @List.any_eq_true
abbrev abk:= @List.eq_nil_of_length_eq_zero
abbrev abT:= @List.cons.inj
abbrev ab2:= @Nat.mul_comm
abbrev ab3:= @Nat.pow_succ
abbrev ab7:= @Nat.add_zero
abbrev abC:= @List.length_pos_of_mem
abbrev ab1:= @List.all_cons
abbrev abQ:= @List.mem_filter
abbrev abU:= @List.length_nil
abbrev abz:= @List.getElem?_append_right
abbrev abR:= @List.cons_append
abbrev abV:= @Nat.div_le_self
abbrev ach:= @Nat.zero_mul
abbrev ab8:= @List.map_cons
abbrev ab0:= @List.getElem?_map
abbrev ab6:= @List.prefix_refl
abbrev acC:= @Nat.sub_zero
abbrev acD:= @List.all_nil
abbrev ace:= @List.map_append
abbrev aci:= @Nat.and_le_right
abbrev acj:= @Nat.lt_succ_self
abbrev ab5:= @Nat.add_sub_cancel
abbrev acy:= @Nat.mul_le_mul
abbrev abB:= @Nat.testBit_eq_decide_div_mod_eq
abbrev abL:= @List.getElem?_append_left
abbrev acJ:= @Bool.or_false
abbrev acE:= @Nat.pow_dvd_pow
abbrev act:= @Nat.mod_eq_of_lt
abbrev abM:= @Array.getD_eq_getD_getElem?
abbrev acF:= @Nat.min_eq_left
abbrev acG:= @List.foldl_cons
abbrev acu:= @List.filter_cons
abbrev ack:= @Bool.false_eq_true
abbrev acd:= @List.map_congr_left
abbrev acp:= @List.length_pos_iff
abbrev abS:= @Nat.two_pow_add_eq_or_of_lt
abbrev acM:= @Nat.min_le_right
abbrev acm:= @Bool.and_eq_true_iff
abbrev acN:= @List.mem_flatMap
abbrev acn:= @Nat.pow_lt_pow_right
abbrev acz:= @List.filter_append
abbrev acq:= @List.mem_map_of_mem
abbrev abX:= @List.getElem?_eq_some_iff
abbrev acr:= @Array.length_toList
abbrev acA:= @List.pairwise_cons
abbrev abY:= @List.pairwise_iff_getElem
abbrev aca:= @List.take_of_length_le
abbrev acb:= @Nat.testBit_lt_two_pow
abbrev acO:= @List.getElem?_drop
abbrev acB:= @List.length_filter_le
abbrev acH:= @List.pairwise_append
abbrev ab9:= @Array.getElem?_setIfInBounds_ne
abbrev acR:= @Nat.le_of_ble_eq_true
abbrev acf:= @Nat.and_two_pow_sub_one_eq_mod
abbrev acs:= @Array.getElem?_eq_some_iff
abbrev acI:= @List.length_erase_of_mem
abbrev acK:= @List.take_append_of_le_length
abbrev acP:= @Nat.testBit_two_pow_sub_one
abbrev acv:= @List.take_succ_eq_append_getElem
theorem mV {N:Nat} {a b:World} {p:Prop} (h:Below N a b) (k:a.heap.size≤b.heap.size→p:=by intro h;omega):p:=k (Below.size h)
theorem CB {p:Prop} (h:p:=by simp only[An,aa5,abU];omega):p:=h
theorem GD {p:Prop} (h:p:=by simp only[List.map_toArray,ab8,List.map_nil,List.append_toArray,abG,abR];rfl):p:=h
theorem OD {p:Prop} (h:p:=by (simp only[Bg,mi,Li,Ab];omega)):p:=h
theorem fD {p:Prop} (h:p:=by simp):p:=h
theorem AO {p:Prop} (h:p:=by simp only[List.map_toArray,ab8,List.map_nil];rfl):p:=h
theorem ka {p:Prop} (h:p:=by kernel_rfl):p:=h
theorem pN {p:Prop} (h:p:=by assumption):p:=h
theorem iw {p:Prop} (h:p:=by simp;omega):p:=h
theorem tW {p:Prop} (h:p:=by exact Wq _ _ (by simp only[IW];omega)):p:=h
theorem y6 {p:Prop} (h:p:=by simp only[iA,so,abd];omega):p:=h
theorem pZ {p:Prop} (h:p:=by simp only[iA];omega):p:=h
theorem vP {p:Prop} (h:p:=by (simp only[iA];omega)):p:=h
theorem xo {p:Prop} (h:p:=by rw[mf,aa4];omega):p:=h
theorem YS {p:Prop} (h:p:=by simp only[IW];omega):p:=h
theorem VK {p:Prop} (h:p:=by simp only[An,aa5,abU,lE];omega):p:=h
theorem xz {p:Prop} (h:p:=by exact acR rfl):p:=h
theorem Ht {p:Prop} (h:p:=by rw[aa4];omega):p:=h
theorem pI {p:Prop} (h:p:=by rfl):p:=h
theorem Am {p:Prop} (h:p:=by (simp;omega)):p:=h
theorem SB {p:Prop} (h:p:=by (simp only[Bg,mi];omega)):p:=h
theorem RI {p:Prop} (h:p:=by (simp only[ku,qd];omega)):p:=h
theorem RB {p:Prop} (h:p:=by simp only[abd]at*;omega):p:=h
theorem Xx {p:Prop} (h:p:=by show 256-(k+1)<256-k;omega):p:=h
theorem K1 {p:Prop} (h:p:=by exact Nat.zero_lt_one):p:=h
theorem A3 {p:Prop} (h:p:=by rw[e]):p:=h
theorem UM {p:Prop} (h:p:=by simp only[iA,so];omega):p:=h
theorem Wy {p:Prop} (h:p:=by rw[abd];simp only[iA];omega):p:=h
theorem U6 {p:Prop} (h:p:=by rw[e];exact aa9):p:=h
structure D6 (n:Nat) (f:Nat→Value) (a:Act):Prop where
 defers:a.defers=[]
 size:a.tmps.size=n
 get:∀t,a.tmps.getD t undef=f t
def upd (f:Nat→Value) (d:Nat) (v:Value):Nat→Value:=λt=>cond (Nat.beq t d) v (f t)
def updo (f:Nat→Value) (d:Option Nat) (v:Value):Nat→Value:=
 match d with
 |none=>f
 |some d=>upd f d v
def jU (n:Nat) (d:Option Nat):Bool:=
 match d with
 |none=>true
 |some d=>decide (d<n)
def dk (f:Nat→Value) (x:Operand):Value:=
 match x with
 | .tmp t=>f t
 | .const v=>v
 | .global g=> .pointer (some ⟨g,0,none⟩)
 | .func k=> .func (.func k) #[] #[]
theorem yS (f:Nat→Value) (d:Nat) (v:Value):upd f d v d=v:=by simp[upd]
theorem Dh (f:Nat→Value) {d t:Nat} (v:Value) (h:t≠d):upd f d v t=f t:=by
 have e:Nat.beq t d=false:=by cases hb:Nat.beq t d with|false=>rfl|true=>exact absurd (Nat.eq_of_beq_eq_true hb) h
 simp only[upd,e,cond_false]
theorem D6.eval {n:Nat} {f:Nat→Value} {a:Act} (h:D6 n f a):a.eval=dk f:=by
 funext x
 cases x<;>simp only[Act.eval,dk,h.get]
theorem D6.put {n:Nat} {f:Nat→Value} {a:Act} (h:D6 n f a) {d:Option Nat} (hd:jU n d=true) (v:Value):D6 n (updo f d v) (a.put d v):=by
 cases d with
 |none=>exact h
 |some d=>
  have hlt:d<n:=by simpa [jU] using hd
  refine⟨h.defers,by simp[Act.put,h.size],λt=> ?_⟩
  have hg:=h.get t
  simp only[Act.put,updo]
  by_cases e:t=d
  ·subst e
   rw[yS]
   simp[h.size,hlt]
  ·rw[Dh _ _ e,←hg]
   simp[ab9 (Ne.symm e)]
def GM (ops:Array Oper) (f:Nat→Value) (j:Nat):Option Bool:=
 match (ops[j]?).bind (·.dst)with
 |none=>none
 |some d=>match f d with
  | .bool b=>some b
  |_=>none
theorem D6.yielded {n:Nat} {f:Nat→Value} {a:Act} (h:D6 n f a) (ops:Array Oper) (j:Nat):yielded ops a.tmps j=GM ops f j:=by
 unfold Go.yielded GM
 cases hd:(ops[j]?).bind (·.dst)with
 |none=>simp
 |some d=>
  have hg:=h.get d
  simp only[Option.bind_some]
  cases ht:a.tmps[d]? with
  |none=>simp[ht]at hg;rw[←hg];rfl
  |some v=>
   simp[ht]at hg
   rw[←hg]
   cases v<;>rfl
def gf (ops:Array Oper) (f:Nat→Value) (o:Oper):Bool:=
 match o.guard with
 |none=>true
 |some (j,want)=>GM ops f j==some want
theorem D6.wanted {n:Nat} {f:Nat→Value} {a:Act} (h:D6 n f a) (ops:Array Oper) (o:Oper):Region.wanted o (Go.yielded ops a.tmps)=gf ops f o:=by
 unfold Region.wanted gf
 cases o.guard with
 |none=>rfl
 |some g=>simp only[h.yielded]
def dC (w w':World):Prop:=Below w.heap.size w w'
theorem dC.refl (w:World):dC w w:=Below.refl _ _
theorem dC.size {w w':World} (h:dC w w'):w.heap.size≤w'.heap.size:=Below.size h
theorem dC.trans {a b c:World} (h:dC a b) (k:dC b c):dC a c:=Below.trans h (Below.mono k (Below.size h))
class Kp (w w':World) (p:Prop) (q:outParam Prop):Prop where
 k:dC w w'→p→q
theorem dC.k2 {w w':World} {p1 q1 p2 q2:Prop} [Kp w w' p1 q1] [Kp w w' p2 q2] (h:dC w w') (a1:p1) (a2:p2):q1∧q2:=⟨Kp.k h a1,Kp.k h a2⟩
theorem dC.k3 {w w':World} {p1 q1 p2 q2 p3 q3:Prop} [Kp w w' p1 q1] [Kp w w' p2 q2] [Kp w w' p3 q3] (h:dC w w') (a1:p1) (a2:p2) (a3:p3):q1∧q2∧q3:=⟨Kp.k h a1,Kp.k h a2,Kp.k h a3⟩
theorem dC.k4 {w w':World} {p1 q1 p2 q2 p3 q3 p4 q4:Prop} [Kp w w' p1 q1] [Kp w w' p2 q2] [Kp w w' p3 q3] [Kp w w' p4 q4] (h:dC w w') (a1:p1) (a2:p2) (a3:p3) (a4:p4):q1∧q2∧q3∧q4:=⟨Kp.k h a1,Kp.k h a2,Kp.k h a3,Kp.k h a4⟩
theorem dC.k5 {w w':World} {p1 q1 p2 q2 p3 q3 p4 q4 p5 q5:Prop} [Kp w w' p1 q1] [Kp w w' p2 q2] [Kp w w' p3 q3] [Kp w w' p4 q4] [Kp w w' p5 q5] (h:dC w w') (a1:p1) (a2:p2) (a3:p3) (a4:p4) (a5:p5):q1∧q2∧q3∧q4∧q5:=⟨Kp.k h a1,Kp.k h a2,Kp.k h a3,Kp.k h a4,Kp.k h a5⟩
theorem dC.k6 {w w':World} {p1 q1 p2 q2 p3 q3 p4 q4 p5 q5 p6 q6:Prop} [Kp w w' p1 q1] [Kp w w' p2 q2] [Kp w w' p3 q3] [Kp w w' p4 q4] [Kp w w' p5 q5] [Kp w w' p6 q6] (h:dC w w') (a1:p1) (a2:p2) (a3:p3) (a4:p4) (a5:p5) (a6:p6):q1∧q2∧q3∧q4∧q5∧q6:=⟨Kp.k h a1,Kp.k h a2,Kp.k h a3,Kp.k h a4,Kp.k h a5,Kp.k h a6⟩
theorem dC.k7 {w w':World} {p1 q1 p2 q2 p3 q3 p4 q4 p5 q5 p6 q6 p7 q7:Prop} [Kp w w' p1 q1] [Kp w w' p2 q2] [Kp w w' p3 q3] [Kp w w' p4 q4] [Kp w w' p5 q5] [Kp w w' p6 q6] [Kp w w' p7 q7] (h:dC w w') (a1:p1) (a2:p2) (a3:p3) (a4:p4) (a5:p5) (a6:p6) (a7:p7):q1∧q2∧q3∧q4∧q5∧q6∧q7:=⟨Kp.k h a1,Kp.k h a2,Kp.k h a3,Kp.k h a4,Kp.k h a5,Kp.k h a6,Kp.k h a7⟩
theorem dC.k8 {w w':World} {p1 q1 p2 q2 p3 q3 p4 q4 p5 q5 p6 q6 p7 q7 p8 q8:Prop} [Kp w w' p1 q1] [Kp w w' p2 q2] [Kp w w' p3 q3] [Kp w w' p4 q4] [Kp w w' p5 q5] [Kp w w' p6 q6] [Kp w w' p7 q7] [Kp w w' p8 q8] (h:dC w w') (a1:p1) (a2:p2) (a3:p3) (a4:p4) (a5:p5) (a6:p6) (a7:p7) (a8:p8):q1∧q2∧q3∧q4∧q5∧q6∧q7∧q8:=⟨Kp.k h a1,Kp.k h a2,Kp.k h a3,Kp.k h a4,Kp.k h a5,Kp.k h a6,Kp.k h a7,Kp.k h a8⟩
theorem dC.k9 {w w':World} {p1 q1 p2 q2 p3 q3 p4 q4 p5 q5 p6 q6 p7 q7 p8 q8 p9 q9:Prop} [Kp w w' p1 q1] [Kp w w' p2 q2] [Kp w w' p3 q3] [Kp w w' p4 q4] [Kp w w' p5 q5] [Kp w w' p6 q6] [Kp w w' p7 q7] [Kp w w' p8 q8] [Kp w w' p9 q9] (h:dC w w') (a1:p1) (a2:p2) (a3:p3) (a4:p4) (a5:p5) (a6:p6) (a7:p7) (a8:p8) (a9:p9):q1∧q2∧q3∧q4∧q5∧q6∧q7∧q8∧q9:=⟨Kp.k h a1,Kp.k h a2,Kp.k h a3,Kp.k h a4,Kp.k h a5,Kp.k h a6,Kp.k h a7,Kp.k h a8,Kp.k h a9⟩
theorem dC.k10 {w w':World} {p1 q1 p2 q2 p3 q3 p4 q4 p5 q5 p6 q6 p7 q7 p8 q8 p9 q9 p10 q10:Prop} [Kp w w' p1 q1] [Kp w w' p2 q2] [Kp w w' p3 q3] [Kp w w' p4 q4] [Kp w w' p5 q5] [Kp w w' p6 q6] [Kp w w' p7 q7] [Kp w w' p8 q8] [Kp w w' p9 q9] [Kp w w' p10 q10] (h:dC w w') (a1:p1) (a2:p2) (a3:p3) (a4:p4) (a5:p5) (a6:p6) (a7:p7) (a8:p8) (a9:p9) (a10:p10):q1∧q2∧q3∧q4∧q5∧q6∧q7∧q8∧q9∧q10:=⟨Kp.k h a1,Kp.k h a2,Kp.k h a3,Kp.k h a4,Kp.k h a5,Kp.k h a6,Kp.k h a7,Kp.k h a8,Kp.k h a9,Kp.k h a10⟩
theorem dC.k11 {w w':World} {p1 q1 p2 q2 p3 q3 p4 q4 p5 q5 p6 q6 p7 q7 p8 q8 p9 q9 p10 q10 p11 q11:Prop} [Kp w w' p1 q1] [Kp w w' p2 q2] [Kp w w' p3 q3] [Kp w w' p4 q4] [Kp w w' p5 q5] [Kp w w' p6 q6] [Kp w w' p7 q7] [Kp w w' p8 q8] [Kp w w' p9 q9] [Kp w w' p10 q10] [Kp w w' p11 q11] (h:dC w w') (a1:p1) (a2:p2) (a3:p3) (a4:p4) (a5:p5) (a6:p6) (a7:p7) (a8:p8) (a9:p9) (a10:p10) (a11:p11):q1∧q2∧q3∧q4∧q5∧q6∧q7∧q8∧q9∧q10∧q11:=⟨Kp.k h a1,Kp.k h a2,Kp.k h a3,Kp.k h a4,Kp.k h a5,Kp.k h a6,Kp.k h a7,Kp.k h a8,Kp.k h a9,Kp.k h a10,Kp.k h a11⟩
theorem dC.k12 {w w':World} {p1 q1 p2 q2 p3 q3 p4 q4 p5 q5 p6 q6 p7 q7 p8 q8 p9 q9 p10 q10 p11 q11 p12 q12:Prop} [Kp w w' p1 q1] [Kp w w' p2 q2] [Kp w w' p3 q3] [Kp w w' p4 q4] [Kp w w' p5 q5] [Kp w w' p6 q6] [Kp w w' p7 q7] [Kp w w' p8 q8] [Kp w w' p9 q9] [Kp w w' p10 q10] [Kp w w' p11 q11] [Kp w w' p12 q12] (h:dC w w') (a1:p1) (a2:p2) (a3:p3) (a4:p4) (a5:p5) (a6:p6) (a7:p7) (a8:p8) (a9:p9) (a10:p10) (a11:p11) (a12:p12):q1∧q2∧q3∧q4∧q5∧q6∧q7∧q8∧q9∧q10∧q11∧q12:=⟨Kp.k h a1,Kp.k h a2,Kp.k h a3,Kp.k h a4,Kp.k h a5,Kp.k h a6,Kp.k h a7,Kp.k h a8,Kp.k h a9,Kp.k h a10,Kp.k h a11,Kp.k h a12⟩
theorem dC.block {w w':World} (h:dC w w') {b:Nat} {o:Obj} (hb:w.heap[b]? =some o):w'.heap[b]? =some o:=by
 rw[Below.block h b (acs.1 hb).1];exact hb
theorem gQ {w:World} {b:Nat} {o:Obj} (hb:w.heap[b]? =some o):b<w.heap.size:=(acs.1 hb).1
theorem adj (w:World) (k:Nat):dC w {w with drawn:=k}:=⟨rfl,rfl,rfl,am _,λ_ _=>rfl⟩
theorem dC.alloc (w:World) (o:Obj):dC w (w.alloc o):=(Below.refl w.heap.size w).alloc (am _) o
theorem cW {N:Nat} {a b c:World} (h:Below N a b) (k:dC b c) (hN:N≤a.heap.size):Below N a c:=Below.trans h (Below.mono k (go hN (Below.size h)))
structure Fn (P:Program) (g:Nat) (vs:Array Value) (w:World) (Post:Value→World→Prop):Prop where
 out:Calls P g vs w λe w'=>∃v,e= .returned v∧dC w w'∧Post v w'
theorem Fn.mono {P:Program} {g:Nat} {vs:Array Value} {w:World} {Post Post':Value→World→Prop} (h:Fn P g vs w Post) (hp:∀v w',dC w w'→Post v w'→Post' v w'):Fn P g vs w Post':=
 ⟨Calls.mono h.out λ_ _ ⟨v,he,hx,hq⟩=>⟨v,he,hx,hp _ _ hx hq⟩⟩
structure Yd (P:Program) (o:Oper) (f:Nat→Value) (w:World) (K:Value→World→Prop):Prop where
 out:∀a:Act,a.eval=dk f→∀Q,o.wp P a w (λa' w'=>∃v,a'=a.put o.dst v∧K v w') Q
theorem Yd.val {P:Program} {o:Oper} {f:Nat→Value} {w w':World} {v:Value} {K:Value→World→Prop}
  (h:(execOp (dk f) o).run P w= .ok (.value v) w') (hK:K v w'):Yd P o f w K:=by
 refine⟨λa ha Q=> ?_⟩
 unfold Oper.wp
 rw[ha,h]
 exact⟨v,rfl,hK⟩
theorem Yd.skip {P:Program} {o:Oper} {f:Nat→Value} {w w':World} {K:Value→World→Prop}
  (h:(execOp (dk f) o).run P w= .ok .skip w') (hK:K undef w'):Yd P o f w K:=by
 refine⟨λa ha Q=> ?_⟩
 unfold Oper.wp
 rw[ha,h]
 exact⟨undef,rfl,hK⟩
theorem Yd.call {P:Program} {o:Oper} {f:Nat→Value} {w:World} {g:Nat} {vs:Array Value} {K Post:Value→World→Prop}
  (h:(execOp (dk f) o).run P w= .ok (.enter g vs) w) (hc:Fn P g vs w Post) (hK:∀v w',dC w w'→Post v w'→K v w'):Yd P o f w K:=by
 refine⟨λa ha Q=> ?_⟩
 unfold Oper.wp
 rw[ha,h]
 refine Calls.mono hc.out λe w' ⟨v,he,hx,hq⟩=> ?_
 subst he
 exact⟨v,rfl,hK v w' hx hq⟩
theorem Yd.mono {P:Program} {o:Oper} {f:Nat→Value} {w:World} {K K':Value→World→Prop} (h:Yd P o f w K) (hk:∀v w',K v w'→K' v w'):Yd P o f w K':=⟨λa ha Q=>Oper.wp_mono (λ_ _ ⟨v,e,k⟩=>⟨v,e,hk _ _ k⟩) (h.out a ha Q)⟩
section
variable (P:Program) (n:Nat) (ops:Array Oper) (Q:(Nat→Value)→World→Prop)
def Pi (n:Nat) (Q:(Nat→Value)→World→Prop):Exit→Act→World→Prop:=
 λe a w=>e= .normal∧∃f,D6 n f a∧Q f w
structure WL (l:List Oper) (f:Nat→Value) (w:World):Prop where
 out:∀a,D6 n f a→wpList P ops (Pi n Q) l a w
end
section
variable {P:Program} {n:Nat} {ops:Array Oper} {Q:(Nat→Value)→World→Prop} {f:Nat→Value} {w:World} {o:Oper} {rest:List Oper}
theorem ct (h:Q f w):WL P n ops Q [] f w:=⟨λ_ ha=>⟨rfl,f,ha,h⟩⟩
theorem gM {dd:Option Nat} (hg:gf ops f o=true) (he:o.dst=dd) (hd:jU n dd=true) (h:Yd P o f w λv w'=>WL P n ops Q rest (updo f dd v) w'):WL P n ops Q (o::rest) f w:=by
 subst he
 refine⟨λa ha=> ?_⟩
 unfold wpList
 rw[ha.wanted,if_pos hg]
 refine .inl (Oper.wp_mono (λa' w' ⟨v,e,k⟩=> ?_) (h.out a ha.eval (Pi n Q)))
 subst e
 exact k.out _ (ha.put hd v)
theorem Q7 {dd:Option Nat} (hg:gf ops f o=false) (he:o.dst=dd) (hd:jU n dd=true) (h:WL P n ops Q rest (updo f dd undef) w):WL P n ops Q (o::rest) f w:=by
 subst he
 refine⟨λa ha=> ?_⟩
 unfold wpList
 rw[ha.wanted,if_neg (by simp[hg])]
 exact h.out _ (ha.put hd undef)
theorem GL {dd:Option Nat} {v:Value} {w':World} (hg:gf ops f o=true) (he:o.dst=dd) (hd:jU n dd=true) (hr:(execOp (dk f) o).run P w= .ok (.value v) w')
  (h:WL P n ops Q rest (updo f dd v) w'):WL P n ops Q (o::rest) f w:=gM hg he hd (.val hr h)
theorem oI {dd:Option Nat} {g:Nat} {vs:Array Value} {Post:Value→World→Prop} (hg:gf ops f o=true) (he:o.dst=dd) (hd:jU n dd=true) (hr:(execOp (dk f) o).run P w= .ok (.enter g vs) w)
  (hc:Fn P g vs w Post) (h:∀v w',dC w w'→Post v w'→WL P n ops Q rest (updo f dd v) w'):WL P n ops Q (o::rest) f w:=gM hg he hd (.call hr hc h)
theorem MG {dd:Option Nat} {b:Bool} (hg:gf ops f o=true) (he:o.dst=dd) (hd:jU n dd=true) (hr:(execOp (dk f) o).run P w= .ok (.value (.bool b)) w)
  (ht:b=true→WL P n ops Q rest (updo f dd (.bool true)) w) (hf:b=false→WL P n ops Q rest (updo f dd (.bool false)) w):WL P n ops Q (o::rest) f w:=by
 cases b
 ·exact GL hg he hd hr (hf rfl)
 ·exact GL hg he hd hr (ht rfl)
end
def rj (ops:Array Oper) (j k:Nat):Bool:=
 match ops[j]? with
 |none=>false
 |some o=>o.after.any λe=>Region.binds .any e&&e.on==k
def C7 (ops:Array Oper):Nat→Nat→Nat→Bool
 |0,j,k=>rj ops j k
 |n+1,j,k=>rj ops j k||(List.range ops.size).any λm=>rj ops j m&&C7 ops n m k
def mO (ops:Array Oper) (listed:Array Bool) (j:Nat):Bool:=
 (List.range ops.size).all λk=> !listed.getD k false||C7 ops 4 j k
theorem yG {ops:Array Oper} {j k:Nat}:rj ops j k=true↔∃o,ops[j]? =some o∧∃e,e∈o.after∧Region.binds .any e=true∧e.on=k:=by
 unfold rj
 cases ops[j]? with
 |none=>simp
 |some o=>
  simp only[Option.some.injEq,exists_eq_left']
  rw[Array.any_eq_true']
  exact⟨λ⟨e,h1,h2⟩=>⟨e,h1,by simpa using h2⟩,λ⟨e,h1,h2⟩=>⟨e,h1,by simpa using h2⟩⟩
def nf (ops:Array Oper) (L:Array Bool):Prop:=∀m k,L.getD m false=true→rj ops m k=true→L.getD k false=true
theorem rk {L:Array Bool} {j k:Nat}:(L.setIfInBounds j true).getD k false=true↔(k=j∧j<L.size)∨L.getD k false=true:=by
 simp only[abM,Array.getElem?_setIfInBounds]
 by_cases h:j=k
 ·subst h
  by_cases h2:j<L.size
  ·simp[h2]
  ·simp[h2]
 ·have h3:¬k=j:=λe=>h e.symm
  simp[h,h3]
theorem nf.add {ops:Array Oper} {L:Array Bool} {j:Nat} (h:nf ops L) (hj:j∈Region.ready .any ops L):nf ops (L.setIfInBounds j true):=λm k hm hw=>by
 rw[rk]at hm ⊢
 right
 rcases hm with ⟨rfl,_⟩|hm
 ·obtain⟨_,oj,hoj,hall⟩:=mem_ready.1 hj
  obtain⟨o,ho,e,he,hb,rfl⟩:=yG.1 hw
  rw[hoj]at ho
  cases ho
  exact hall e he hb
 ·exact h m k hm hw
theorem nf.none {ops:Array Oper} {n:Nat}:nf ops (Array.replicate n false):=λm k hm _=>by
 simp[abM,Array.getElem?_replicate]at hm
 split at hm<;>simp at hm
theorem tw {ops:Array Oper} {L:Array Bool} (hcl:nf ops L):∀(n j k:Nat),(∀m,rj ops j m=true→L.getD m false=true)→C7 ops n j k=true→L.getD k false=true
 |0,j,k,hw,h=>hw k h
 |n+1,j,k,hw,h=>by
  rw[C7,abF,abH]at h
  rcases h with h|⟨m,_,h⟩
  ·exact hw k h
  ·rw[th]at h
   exact tw hcl n m k (λq hq=>hcl m q (hw m h.1) hq) h.2
def ZJ (P:Program) (ops:Array Oper) (Q:Exit→Act→World→Prop) (S:World→Prop):Nat→Array Bool→Act→World→Prop
 |0,L,a,w=>Region.ready .any ops L=[]∧Q .normal a w
 |k+1,L,a,w=>(Region.ready .any ops L=[]→Q .normal a w)∧
  ∀i∈Region.ready .any ops L,wpOp P ops Q i (λa' w'=>(S w'∨mO ops L i=true)∧ZJ P ops Q S k (L.setIfInBounds i true) a' w') a w
section
variable {P:Program} {ops:Array Oper} {Q:Exit→Act→World→Prop} {S:World→Prop}
theorem Ah:∀(k:Nat) (L:Array Bool) (a:Act) (w:World),ZJ P ops Q S k L a w→wpAny P .any ops Q k L a w
 |0,_,_,_,h=>h
 |k+1,_,_,_,h=>⟨h.1,λi hi=>wpOp_mono (λa' w' h'=>Ah k _ a' w' h'.2) (h.2 i hi)⟩
theorem Bv {i:Nat} {oi:Oper} {v:Value} (hi:ops[i]? =some oi) (hsel:∀(j:Nat) (o:Oper) cs b,ops[j]? =some o→o.op≠ .select cs b)
  (hQ:∀c a w,Q (.panic c) (a.put oi.dst v) w→Q (.panic c) a w):
  ∀(k:Nat) (L:Array Bool) (a:Act) (w:World),L.size=ops.size→
   (∀j oj,ops[j]? =some oj→j≠i→L.getD j true=false→(∀e∈oj.after,Region.binds .any e=true→e.on≠i)→oi.apart ops oj=true)→
   i∈Region.ready .any ops L→nf ops L→YieldsIf P ops S oi v a→S w→
   ZJ P ops Q S k (L.setIfInBounds i true) (a.put oi.dst v) w→ZJ P ops Q S (k+1) L a w:=by
 intro k
 induction k with
 |zero=>
  intro L a w hsz hfree hr hcl hy hS H
  refine⟨λh=>(by rw[h]at hr;cases hr),λj hj=> ?_⟩
  by_cases hji:j=i
  ·subst hji
   exact hy.wpOp hi hS ⟨.inl hS,H⟩
  ·have:=ready_mono hj hji
   rw[H.1]at this
   cases this
 |succ k ih=>
  intro L a w hsz hfree hr hcl hy hS H
  refine⟨λh=>(by rw[h]at hr;cases hr),λj hj=> ?_⟩
  by_cases hji:j=i
  ·subst hji
   exact hy.wpOp hi hS ⟨.inl hS,H⟩
  ·have h1:=H.2 j (ready_mono hj hji)
   obtain⟨hjun,oj,hoj,hall⟩:=mem_ready.1 hj
   have hiL:L.getD i true=false:=(mem_ready.1 hr).1
   have hilt:i<ops.size:=(acs.1 hi).1
   have hnot:∀e∈oj.after,Region.binds .any e=true→e.on≠i:=λe he hb heq=>by
    have h2:=hall e he hb
    rw[heq]at h2
    have hlt:i<L.size:=by omega
    simp[hlt]at hiL h2
    rw[hiL]at h2
    cases h2
   have hnf:mO ops (L.setIfInBounds i true) j=false:=by
    cases hfb:mO ops (L.setIfInBounds i true) j with
    |false=>rfl
    |true=>
     simp only[mO,aa2,aba]at hfb
     have h3:=hfb i hilt
     have hlt:i<L.size:=by omega
     have hin:(L.setIfInBounds i true).getD i false=true:=rk.2 (.inl ⟨rfl,hlt⟩)
     rw[hin,Bool.not_true,Bool.false_or]at h3
     have hw:∀k,rj ops j k=true→L.getD k false=true:=λk hw=>by
      obtain⟨o,ho,e,he,hb,rfl⟩:=yG.1 hw
      rw[hoj]at ho
      cases ho
      exact hall e he hb
     have hno:L.getD i false=false:=by
      simp only[abM,Array.getElem?_eq_getElem hlt,Option.getD_some]at hiL ⊢
      exact hiL
     rw[tw hcl 4 j i hw h3]at hno;cases hno
   have h2:=wpOp_putIf hoj (hfree j oj hoj hji hjun hnot) (λcs b=>hsel i oi cs b hi) (λcs b=>hsel j oj cs b hoj) hQ hy h1
   have hfree':∀m om,ops[m]? =some om→m≠i→(L.setIfInBounds j true).getD m true=false→
     (∀e∈om.after,Region.binds .any e=true→e.on≠i)→oi.apart ops om=true:=λm om hom hmi hun hno=>by
    refine hfree m om hom hmi ?_ hno
    by_cases hjm:j=m
    ·subst hjm;exact hjun
    ·rw[getD_set_ne true hjm]at hun;exact hun
   refine wpOp_mono (λa' w' h3=> ?_) h2
   have hS':S w':=h3.2.1.resolve_right (by simp[hnf])
   refine⟨.inl hS',ih (L.setIfInBounds j true) a' w' (by simpa using hsz) hfree' (ready_mono hr (Ne.symm hji)) (hcl.add hj) h3.1 hS' ?_⟩
   rw[Array.setIfInBounds_comm _ _ hji]
   exact h3.2.2
end
section
variable (P:Program) (n:Nat) (ops:Array Oper) (Q:(Nat→Value)→World→Prop) (S:World→Prop)
structure WT (k:Nat) (L:Array Bool) (f:Nat→Value) (w:World):Prop where
 out:L.size=ops.size→nf ops L→∀a,D6 n f a→ZJ P ops (Pi n Q) S k L a w
end
section
variable {P:Program} {n:Nat} {ops:Array Oper} {Q:(Nat→Value)→World→Prop} {S:World→Prop} {f:Nat→Value} {w:World} {k:Nat} {L:Array Bool}
theorem P8 (hr:Region.ready .any ops L=[]) (h:Q f w):WT P n ops Q S k L f w:=by
 refine⟨λ_ _ a ha=> ?_⟩
 cases k with
 |zero=>exact⟨hr,rfl,f,ha,h⟩
 |succ k=>exact⟨λ_=>⟨rfl,f,ha,h⟩,by rw[hr];simp⟩
theorem DE (i:Nat) {oi:Oper} {dd:Option Nat} {v:Value} (hi:ops[i]? =some oi) (hs:Region.noSelect ops=true) (hf:Region.free .any ops L i=true)
  (hr:(Region.ready .any ops L).contains i=true) (hg:gf ops f oi=true) (he0:oi.dst=dd) (hd:jU n dd=true)
  (hv:∀w',S w'→(execOp (dk f) oi).run P w'= .ok (.value v) w') (hS:S w)
  (h:WT P n ops Q S k (L.setIfInBounds i true) (updo f dd v) w):WT P n ops Q S (k+1) L f w:=by
 subst he0
 refine⟨λhsz hcl a ha=> ?_⟩
 refine Bv (v:=v) hi (Region.noSelect_spec hs) (λc a w h=>nomatch h.1) k L a w hsz (Region.free_spec hi hf) (by simpa using hr) hcl ?_ hS ?_
 ·exact .inl ⟨by rw[ha.wanted];exact hg,λw' hw'=>by rw[ha.eval];exact hv w' hw'⟩
 ·exact h.out (by simpa using hsz) (hcl.add (by simpa using hr)) _ (ha.put hd v)
theorem N2 (i:Nat) {oi:Oper} {dd:Option Nat} {b:Bool} (hi:ops[i]? =some oi) (hs:Region.noSelect ops=true) (hf:Region.free .any ops L i=true)
  (hr:(Region.ready .any ops L).contains i=true) (hg:gf ops f oi=true) (he0:oi.dst=dd) (hd:jU n dd=true)
  (hv:∀w',S w'→(execOp (dk f) oi).run P w'= .ok (.value (.bool b)) w') (hS:S w)
  (ht:b=true→WT P n ops Q S k (L.setIfInBounds i true) (updo f dd (.bool true)) w)
  (he:b=false→WT P n ops Q S k (L.setIfInBounds i true) (updo f dd (.bool false)) w):WT P n ops Q S (k+1) L f w:=by
 cases b
 ·exact DE i hi hs hf hr hg he0 hd hv hS (he rfl)
 ·exact DE i hi hs hf hr hg he0 hd hv hS (ht rfl)
theorem RN (i:Nat) {oi:Oper} {dd:Option Nat} (hi:ops[i]? =some oi) (hs:Region.noSelect ops=true) (hf:Region.free .any ops L i=true)
  (hr:(Region.ready .any ops L).contains i=true) (hg:gf ops f oi=false) (he0:oi.dst=dd) (hd:jU n dd=true) (hS:S w)
  (h:WT P n ops Q S k (L.setIfInBounds i true) (updo f dd undef) w):WT P n ops Q S (k+1) L f w:=by
 subst he0
 refine⟨λhsz hcl a ha=> ?_⟩
 refine Bv (v:=undef) hi (Region.noSelect_spec hs) (λc a w h=>nomatch h.1) k L a w hsz (Region.free_spec hi hf) (by simpa using hr) hcl ?_ hS ?_
 ·exact .inr ⟨by rw[ha.wanted];exact hg,rfl⟩
 ·exact h.out (by simpa using hsz) (hcl.add (by simpa using hr)) _ (ha.put hd undef)
theorem EV {i:Nat} {oi:Oper} {dd:Option Nat} (hi:ops[i]? =some oi) (hg:gf ops f oi=true) (he0:oi.dst=dd) (hd:jU n dd=true) {K:(Nat→Value)→World→Prop} {a:Act} (ha:D6 n f a)
  {J:Act→World→Prop} (hJ:∀f' a' w',D6 n f' a'→K f' w'→J a' w') (h:Yd P oi f w λv w'=>K (updo f dd v) w'):wpOp P ops (Pi n Q) i J a w:=by
 subst he0
 unfold wpOp
 simp only[hi]
 rw[ha.wanted,if_pos hg]
 refine .inl (Oper.wp_mono (λa' w' ⟨v,e,hk⟩=> ?_) (h.out a ha.eval (Pi n Q)))
 subst e
 exact hJ _ _ _ (ha.put hd v) hk
theorem iY (i:Nat) {oi:Oper} {dd:Option Nat} (hr:Region.ready .any ops L=[i]) (hi:ops[i]? =some oi) (hg:gf ops f oi=true) (he0:oi.dst=dd) (hd:jU n dd=true)
  (h:Yd P oi f w λv w'=>(S w'∨mO ops L i=true)∧WT P n ops Q S k (L.setIfInBounds i true) (updo f dd v) w'):WT P n ops Q S (k+1) L f w:=by
 refine⟨λhsz hcl a ha=> ?_⟩
 refine⟨λh0=>(by rw[hr]at h0;cases h0),λj hj=> ?_⟩
 have hj':=hj
 rw[hr,aaL]at hj
 subst hj
 exact EV (K:=λf' w'=>(S w'∨mO ops L j=true)∧WT P n ops Q S k (L.setIfInBounds j true) f' w') hi hg he0 hd ha
  (λf' a' w' hr' hk=>⟨hk.1,hk.2.out (by simpa using hsz) (hcl.add hj') a' hr'⟩) h
theorem v8 (i j:Nat) {oi oj:Oper} {di dj:Option Nat} (hr:Region.ready .any ops L=[i,j]) (hi:ops[i]? =some oi) (hj:ops[j]? =some oj)
  (hgi:gf ops f oi=true) (hei:oi.dst=di) (hdi:jU n di=true) (hgj:gf ops f oj=true) (hej:oj.dst=dj) (hdj:jU n dj=true)
  (h1:Yd P oi f w λv w'=>(S w'∨mO ops L i=true)∧WT P n ops Q S k (L.setIfInBounds i true) (updo f di v) w')
  (h2:Yd P oj f w λv w'=>(S w'∨mO ops L j=true)∧WT P n ops Q S k (L.setIfInBounds j true) (updo f dj v) w'):WT P n ops Q S (k+1) L f w:=by
 refine⟨λhsz hcl a ha=> ?_⟩
 refine⟨λh0=>(by rw[hr]at h0;cases h0),λm hm=> ?_⟩
 have hm':=hm
 rw[hr]at hm
 rcases abl.1 hm with rfl|hm
 ·exact EV (K:=λf' w'=>(S w'∨mO ops L m=true)∧WT P n ops Q S k (L.setIfInBounds m true) f' w') hi hgi hei hdi ha
   (λf' a' w' hr' hk=>⟨hk.1,hk.2.out (by simpa using hsz) (hcl.add hm') a' hr'⟩) h1
 ·rw[aaL]at hm
  subst hm
  exact EV (K:=λf' w'=>(S w'∨mO ops L m=true)∧WT P n ops Q S k (L.setIfInBounds m true) f' w') hj hgj hej hdj ha
   (λf' a' w' hr' hk=>⟨hk.1,hk.2.out (by simpa using hsz) (hcl.add hm') a' hr'⟩) h2
end
section
variable (P:Program) (n:Nat)
def XQ (n:Nat) (Q:Exit→(Nat→Value)→World→Prop):Exit→Act→World→Prop:=λe a w=>∃f,D6 n f a∧Q e f w
structure WC (c:Code) (Q:Exit→(Nat→Value)→World→Prop) (f:Nat→Value) (w:World):Prop where
 out:∀a,D6 n f a→c.wp P (XQ n Q) a w
def yx (K:(Nat→Value)→World→Prop) (Q:Exit→(Nat→Value)→World→Prop):Exit→(Nat→Value)→World→Prop
 | .normal=>K
 |e=>Q e
def t8 (id:Nat) (Q:Exit→(Nat→Value)→World→Prop):Exit→(Nat→Value)→World→Prop
 | .exit id'=>if id'=id then Q .normal else Q (.exit id')
 |e=>Q e
end
section
variable {P:Program} {n:Nat} {Q:Exit→(Nat→Value)→World→Prop} {f:Nat→Value} {w:World}
theorem VX {x y:Code} (h:∀K:(Nat→Value)→World→Prop,(∀f w,WC P n y Q f w→K f w)→WC P n x (yx K Q) f w):WC P n (.seq x y) Q f w:=by
 refine⟨λa ha=> ?_⟩
 refine wp_seq (Code.wp_mono (λe a' w' hq=> ?_) ((h (WC P n y Q) (λ_ _ h=>h)).out a ha))
 obtain⟨f',hr,hq⟩:=hq
 cases e with
 |normal=>exact hq.out a' hr
 |_=>exact⟨f',hr,hq⟩
theorem d9 {K:(Nat→Value)→World→Prop} (h:Q .ret f w):yx K Q .ret f w:=h
theorem dO {id:Nat} (h:Q .ret f w):t8 id Q .ret f w:=h
theorem cx (h:Q .normal f w):WC P n .skip Q f w:=⟨λ_ ha=>wp_skip ⟨f,ha,h⟩⟩
theorem nX (h:Q .ret f w):WC P n .ret Q f w:=⟨λ_ ha=>wp_ret ⟨f,ha,h⟩⟩
theorem cT {id:Nat} (h:Q (.exit id) f w):WC P n (.exit id) Q f w:=⟨λ_ ha=>wp_exit ⟨f,ha,h⟩⟩
theorem DH {c:Operand} {x y:Code} {b:Bool} (hc:dk f c= .bool b) (ht:b=true→WC P n x Q f w) (hf:b=false→WC P n y Q f w):WC P n (.cond c x y) Q f w:=by
 refine⟨λa ha=> ?_⟩
 refine wp_cond_split (t:=b) (by rw[ha.eval];exact hc) (λh=>(ht h).out a ha) (λh=>(hf h).out a ha)
theorem cQ {c:Operand} {x y:Code} (hc:dk f c= .bool true) (ht:WC P n x Q f w):WC P n (.cond c x y) Q f w:=DH hc (λ_=>ht) (λh=>by cases h)
theorem dH {c:Operand} {x y:Code} (hc:dk f c= .bool false) (hf:WC P n y Q f w):WC P n (.cond c x y) Q f w:=DH hc (λh=>by cases h) (λ_=>hf)
theorem cy {id:Nat} {c:Code} (h:WC P n c (t8 id Q) f w):WC P n (.block id c) Q f w:=by
 refine⟨λa ha=> ?_⟩
 refine wp_block (Code.wp_mono (λe a' w' hq=> ?_) (h.out a ha))
 obtain⟨f',hr,hq⟩:=hq
 cases e with
 |exit id'=>
  by_cases hid:id'=id
  ·simp only[t8,hid,if_true]at hq
   simp only[Exit.inBlock,hid,if_true]
   exact⟨f',hr,hq⟩
  ·simp only[t8,hid,if_false]at hq
   simp only[Exit.inBlock,hid,if_false]
   exact⟨f',hr,hq⟩
 |normal=>exact⟨f',hr,hq⟩
 |ret=>exact⟨f',hr,hq⟩
 |goto l=>exact⟨f',hr,hq⟩
 |panic c=>exact⟨f',hr,hq⟩
 |outgrown=>exact⟨f',hr,hq⟩
theorem cI {id:Nat} {l:List Oper} (h:WL P n l.toArray (Q .normal) l f w):WC P n (.region id l.toArray false) Q f w:=by
 refine⟨λa ha=> ?_⟩
 refine Code.wp_mono (λe a' w' hq=> ?_) (wp_region_lit (h.out a ha))
 obtain⟨rfl,f',hr,hq⟩:=hq
 exact⟨f',hr,hq⟩
theorem eP (S:World→World→Prop) {id:Nat} {ops:Array Oper} (hm:P.follows .mixedOrders=true)
  (h:∀w1,dC w w1→WT P n ops (Q .normal) (S w1) ops.size (Array.replicate ops.size false) f w1):WC P n (.region id ops true) Q f w:=by
 refine⟨λa ha=> ?_⟩
 refine Code.wp_mono (λe a' w' hq=> ?_) (wp_region_any hm (Ah _ _ _ _ ((h _ (adj w _)).out fD nf.none a ha)))
 obtain⟨rfl,f',hr,hq⟩:=hq
 exact⟨f',hr,hq⟩
def updL (l:List (Nat×Value)) (f:Nat→Value):Nat→Value:=
 match l with
 |[]=>f
 |(d,v)::r=>upd (updL r f) d v
def pc (S:List Nat) (t:Nat):Bool:=
 match S with
 |a::b::r=>cond (cond (Nat.ble a t) (Nat.ble t b) false) true (pc r t)
 |_=>false
def mask (S:List Nat) (f g:Nat→Value):Nat→Value:=λt=>cond (pc S t) (g t) (f t)
def dD (S:List Nat) (f g:Nat→Value):Prop:=∀t,pc S t=false→f t=g t
theorem dD.refl (S:List Nat) (f:Nat→Value):dD S f f:=λ_ _=>rfl
theorem dD.upd {S:List Nat} {f g:Nat→Value} (h:dD S f g) {d:Nat} (hd:pc S d=true) (v:Value):dD S (upd f d v) g:=by
 intro t ht
 rw[Dh _ _ (λe=>by rw[e,hd]at ht;cases ht)]
 exact h t ht
theorem acx {S:List Nat} {f g:Nat→Value} (h:dD S f g) {d:Option Nat} (hd:(match d with|none=>true|some d=>pc S d)=true) (v:Value):dD S (updo f d v) g:=by
 cases d with
 |none=>exact h
 |some d=>exact h.upd hd v
theorem dD.mask (S:List Nat) (f g:Nat→Value):dD S (mask S f g) f:=by
 intro t ht
 simp only[Go.Proofs.YtedeonkjellcpaaGreatDoor.mask,ht,cond_false]
theorem aco {S:List Nat} {f g:Nat→Value} (h:dD S f g):∀(l:List (Nat×Value)),(l.all λp=>pc S p.1)=true→dD S (updL l f) g
 |[],_=>h
 |(d,v)::r,hl=>by
  simp only[ab1,th]at hl
  exact(aco h r hl.2).upd hl.1 v
def ri (f:Nat→Value):List (Nat×Value)→Prop
 |[]=>True
 |(d,v)::r=>f d=v∧ri f r
theorem xP {S:List Nat} {f0 f:Nat→Value} (h:dD S f f0):∀(l:List (Nat×Value)),ri f l→f=updL l (mask S f0 f)
 |[],_=>by
  funext t
  cases ht:pc S t with
  |true=>simp only[updL,mask,ht,cond_true]
  |false=>simp only[updL,mask,ht,cond_false];exact h t ht
 |(d,v)::r,hl=>by
  funext t
  have ih:=congrFun (xP h r hl.2) t
  by_cases e:t=d
  ·subst e
   rw[updL,yS];exact hl.1
  ·rw[updL,Dh _ _ e];exact ih
theorem cY {σ:Type} (S:List Nat) (L:σ→List (Nat×Value)) (I:σ→World→Prop) (μ:σ→Nat) (s0:σ) {c:Code}
  (hs:ri f (L s0)) (hi:I s0 w)
  (hb:∀s g w1,I s w1→∀J:(Nat→Value)→World→Prop,(∀f2 w2 s2,dD S f2 f→ri f2 (L s2)→I s2 w2→μ s2<μ s→J f2 w2)→
   WC P n c (yx J Q) (updL (L s) (mask S f g)) w1):WC P n (.loop c) Q f w:=by
 refine⟨λa ha=> ?_⟩
 refine wp_loop_ghost (λm a' w'=>∃s f1,μ s=m∧D6 n f1 a'∧dD S f1 f∧ri f1 (L s)∧I s w') (μ s0) ⟨s0,f,rfl,ha,dD.refl _ _,hs,hi⟩ ?_
 rintro m a1 w1 ⟨s,f1,rfl,hr,hag,hl,hI⟩
 have hb':=hb s f1 w1 hI (λf2 w2=>dD S f2 f∧∃s2,ri f2 (L s2)∧I s2 w2∧μ s2<μ s) (λf2 w2 s2 h1 h2 h3 h4=>⟨h1,s2,h2,h3,h4⟩)
 rw[←xP hag (L s) hl]at hb'
 refine Code.wp_mono (λe a2 w2 hq=> ?_) (hb'.out a1 hr)
 obtain⟨f2,hr2,hq⟩:=hq
 cases e with
 |normal=>
  obtain⟨hag2,s2,hl2,hI2,hlt⟩:=hq
  exact⟨μ s2,hlt,s2,f2,rfl,hr2,hag2,hl2,hI2⟩
 |exit id=>exact⟨f2,hr2,hq⟩
 |goto l=>exact⟨f2,hr2,hq⟩
 |ret=>exact⟨f2,hr2,hq⟩
 |panic c=>exact⟨f2,hr2,hq⟩
 |outgrown=>exact⟨f2,hr2,hq⟩
end
end
section
open Go Go.RowKit
def eJ (P:Program) (t:TypeId):Bool:=
 match P.underlying t with
 |some (.struct _)|some (.array _ _)|none=>false
 |_=>(P.info? t).any λi=>i.size==1
def kf (P:Program) (t:TypeId):Option Nat:=
 match P.underlying t with
 |some (.struct _)|some (.array _ _)=>(P.info? t).map (·.size)
 |_=>none
def d5 (P:Program) (t:TypeId) (k:Nat):Option Nat:=
 match P.underlying t with
 |some (.struct fs)=>(fs[k]?).bind λfd=>if (P.info? fd.type).any (λi=>i.size != 0)then some fd.offset else none
 |_=>none
def fl (P:Program) (t:TypeId):Option (TypeId×Nat×Nat):=
 match P.underlying t with
 |some (.slice e)=>(P.info? e).map λi=>(e,i.size,i.bytes)
 |_=>none
def LV (P:Program) (t:TypeId):Option (Nat×Nat):=
 match P.underlying t with
 |some (.array n e)=>(P.info? e).map λi=>(n,i.size)
 |_=>none
def dW (P:Program) (t:TypeId):Option Value:=(P.info? t).bind (·.zero)
def m3 (P:Program) (t:TypeId):Option (TypeId×TypeId):=
 match P.underlying t with
 |some (.map k e)=>some (k,e)
 |_=>none
def cX (P:Program) (g:Nat):Bool:=
 match P.funcs[g]? with
 |some fn=> !(fn.name== "runtime.NumGoroutine")&&fn.body.isSome
 |none=>false
theorem mg {P:Program} {t:TypeId} {k:Nat} (h:kf P t=some k):(isAgg t).run P=Sem.run P (pure true)∧(sizeOf t).run P=Sem.run P (pure k):=by
 unfold kf at h
 cases hu:P.underlying t with
 |none=>simp[hu]at h
 |some d=>
  cases hi:P.info? t with
  |none=>cases d<;>simp[hu,hi]at h
  |some i=>
   cases d<;>simp[hu,hi]at h
   all_goals
    subst h
    exact⟨by funext w;simp[isAgg,run_underlying hu],by funext w;simp[sizeOf,typeInfo,hi]⟩
theorem nb {P:Program} {t:TypeId} (h:eJ P t=true):(isAgg t).run P=Sem.run P (pure false)∧(sizeOf t).run P=Sem.run P (pure 1):=by
 unfold eJ at h
 cases hu:P.underlying t with
 |none=>simp[hu]at h
 |some d=>
  cases hi:P.info? t with
  |none=>cases d<;>simp[hu,hi]at h
  |some i=>
   cases d<;>simp[hu,hi]at h
   all_goals exact⟨by funext w;simp[isAgg,run_underlying hu],by funext w;simp[sizeOf,typeInfo,hi,h]⟩
section
variable {P:Program} {f:Nat→Value} {w:World} {d:Option Nat} {ty:TypeId} {ps:String} {af:Array Edge} {g:Option (Nat×Bool)} {x y c:Operand}
theorem jY {v:Value} (h:dk f x=v):(execOp (dk f) ⟨d, .move x,ty,ps,af,g⟩).run P w= .ok (.value v) w:=by subst h;rfl
theorem Fp {v:Value} (h:dk f x=v):(execOp (dk f) ⟨d, .assign x,ty,ps,af,g⟩).run P w= .ok (.value v) w:=by subst h;rfl
theorem Pe {v:Value} (hc:dk f c= .bool true) (h:dk f x=v):(execOp (dk f) ⟨d, .pick c x y,ty,ps,af,g⟩).run P w= .ok (.value v) w:=by
 subst h;simp[execOp,hc,asBool]
theorem Nn {v:Value} (hc:dk f c= .bool false) (h:dk f y=v):(execOp (dk f) ⟨d, .pick c x y,ty,ps,af,g⟩).run P w= .ok (.value v) w:=by
 subst h;simp[execOp,hc,asBool]
theorem se {a:Addr} (h:dk f x= .pointer (some a)):(execOp (dk f) ⟨d, .nilCheck x,ty,ps,af,g⟩).run P w= .ok (.value (.pointer (some a))) w:=by
 simp[execOp,h]
variable {t t2:TypeId} {k:IntKind} {a b:Int}
theorem TZ (hx:dk f x= .int k a) (hy:dk f y= .int k b):(execOp (dk f) ⟨d, .binOp .add t x y t2,ty,ps,af,g⟩).run P w= .ok (.value (.int k (k.wrap (a+b)))) w:=by
 simp[execOp,hx,hy,eqGuard,binOp,Op.intArith]
theorem Pk (hx:dk f x= .int k a) (hy:dk f y= .int k b):(execOp (dk f) ⟨d, .binOp .sub t x y t2,ty,ps,af,g⟩).run P w= .ok (.value (.int k (k.wrap (a-b)))) w:=by
 simp[execOp,hx,hy,eqGuard,binOp,Op.intArith]
theorem Pl (hx:dk f x= .int k a) (hy:dk f y= .int k b):(execOp (dk f) ⟨d, .binOp .mul t x y t2,ty,ps,af,g⟩).run P w= .ok (.value (.int k (k.wrap (a*b)))) w:=by
 simp[execOp,hx,hy,eqGuard,binOp,Op.intArith]
theorem XB (hx:dk f x= .int k a) (hy:dk f y= .int k b) (hb:b≠0):(execOp (dk f) ⟨d, .binOp .quo t x y t2,ty,ps,af,g⟩).run P w= .ok (.value (.int k (k.wrap (a.tdiv b)))) w:=by
 simp[execOp,hx,hy,eqGuard,binOp,Op.intDiv,hb]
theorem Xj (hx:dk f x= .int k a) (hy:dk f y= .int k b) (hb:b≠0):(execOp (dk f) ⟨d, .binOp .rem t x y t2,ty,ps,af,g⟩).run P w= .ok (.value (.int k (a.tmod b))) w:=by
 simp[execOp,hx,hy,eqGuard,binOp,Op.intDiv,hb]
theorem XI (a b:Int):(a==b)=decide (a=b):=abA.2 fD
theorem dJ (hx:dk f x= .int k a) (hy:dk f y= .int k b):(execOp (dk f) ⟨d, .binOp .eql t x y t2,ty,ps,af,g⟩).run P w= .ok (.value (.bool (decide (a=b)))) w:=by
 simp[execOp,hx,hy,eqGuard,binOp,Op.intCmp,XI]
theorem e7 (hx:dk f x= .int k a) (hy:dk f y= .int k b):(execOp (dk f) ⟨d, .binOp .neq t x y t2,ty,ps,af,g⟩).run P w= .ok (.value (.bool (decide (¬a=b)))) w:=by
 simp[execOp,hx,hy,eqGuard,binOp,Op.intCmp,bne,XI]
theorem dq (hx:dk f x= .int k a) (hy:dk f y= .int k b):(execOp (dk f) ⟨d, .binOp .lss t x y t2,ty,ps,af,g⟩).run P w= .ok (.value (.bool (decide (a<b)))) w:=by
 simp[execOp,hx,hy,eqGuard,binOp,Op.intCmp]
theorem tA (hx:dk f x= .int k a) (hy:dk f y= .int k b):(execOp (dk f) ⟨d, .binOp .leq t x y t2,ty,ps,af,g⟩).run P w= .ok (.value (.bool (decide (a≤b)))) w:=by
 simp[execOp,hx,hy,eqGuard,binOp,Op.intCmp]
theorem iG (hx:dk f x= .int k a) (hy:dk f y= .int k b):(execOp (dk f) ⟨d, .binOp .gtr t x y t2,ty,ps,af,g⟩).run P w= .ok (.value (.bool (decide (b<a)))) w:=by
 simp[execOp,hx,hy,eqGuard,binOp,Op.intCmp]
theorem kn (hx:dk f x= .int k a) (hy:dk f y= .int k b):(execOp (dk f) ⟨d, .binOp .geq t x y t2,ty,ps,af,g⟩).run P w= .ok (.value (.bool (decide (b≤a)))) w:=by
 simp[execOp,hx,hy,eqGuard,binOp,Op.intCmp]
theorem DC {z:Int} (h1: -9223372036854775808≤z) (h2:z≤9223372036854775807):IntKind.i64.wrap z=z:=by
 rw[IntKind.wrap_i64];omega
theorem eB (hx:dk f x= .int .i64 a) (hy:dk f y= .int .i64 b) (h1: -9223372036854775808≤a+b) (h2:a+b≤9223372036854775807):
  (execOp (dk f) ⟨d, .binOp .add t x y t2,ty,ps,af,g⟩).run P w= .ok (.value (.int .i64 (a+b))) w:=by rw[TZ hx hy,DC h1 h2]
theorem jS (hx:dk f x= .int .i64 a) (hy:dk f y= .int .i64 b) (h1: -9223372036854775808≤a-b) (h2:a-b≤9223372036854775807):
  (execOp (dk f) ⟨d, .binOp .sub t x y t2,ty,ps,af,g⟩).run P w= .ok (.value (.int .i64 (a-b))) w:=by rw[Pk hx hy,DC h1 h2]
theorem VD (hx:dk f x= .int .i64 a) (hy:dk f y= .int .i64 b) (h1: -9223372036854775808≤a*b) (h2:a*b≤9223372036854775807):
  (execOp (dk f) ⟨d, .binOp .mul t x y t2,ty,ps,af,g⟩).run P w= .ok (.value (.int .i64 (a*b))) w:=by rw[Pl hx hy,DC h1 h2]
def iA:IntKind→Nat
 | .i8=>1| .i16=>1| .i32=>2147483648| .i64=>9223372036854775808
 | .u8=>256| .u16=>65536| .u32=>4294967296| .u64=>18446744073709551616
theorem ky {k:IntKind} {m:Nat} (h:m<iA k):k.wrap (m:Int)=(m:Int):=by
 cases k<;>simp only[iA]at h
 ·obtain rfl:m=0:=by omega
  rfl
 ·obtain rfl:m=0:=by omega
  rfl
 ·rw[IntKind.wrap_i32];omega
 ·rw[IntKind.wrap_i64];omega
 ·rw[IntKind.wrap_u8];omega
 ·rw[IntKind.wrap_u16];omega
 ·rw[IntKind.wrap_u32];omega
 ·rw[IntKind.wrap_u64];omega
variable {m n:Nat}
theorem OV (hx:dk f x= .int k (m:Int)) (hy:dk f y= .int k b) (hb:b=(n:Int)) (hn:0<n) (hm:m<iA k):
  (execOp (dk f) ⟨d, .binOp .quo t x y t2,ty,ps,af,g⟩).run P w= .ok (.value (.int k ((m/n:Nat):Int))) w:=by
 subst hb
 rw[XB hx hy (by omega)]
 have e:(m:Int).tdiv (n:Int)=((m/n:Nat):Int):=by rw[Int.tdiv_eq_ediv_of_nonneg (by omega)];simp
 rw[e,ky (abr (abV _ _) hm)]
theorem O5 (hx:dk f x= .int k (m:Int)) (hy:dk f y= .int k b) (hb:b=(n:Int)) (hn:0<n):
  (execOp (dk f) ⟨d, .binOp .rem t x y t2,ty,ps,af,g⟩).run P w= .ok (.value (.int k ((m%n:Nat):Int))) w:=by
 subst hb
 rw[Xj hx hy (by omega)]
 have e:(m:Int).tmod (n:Int)=((m%n:Nat):Int):=by rw[Int.tmod_eq_emod_of_nonneg (by omega)];simp
 rw[e]
theorem M1 (hx:dk f x= .int k (m:Int)) (hy:dk f y= .int k b) (hb:b=(n:Int)) (hm:m+n<iA k):
  (execOp (dk f) ⟨d, .binOp .add t x y t2,ty,ps,af,g⟩).run P w= .ok (.value (.int k ((m+n:Nat):Int))) w:=by
 subst hb
 rw[TZ hx hy]
 have e:(m:Int)+(n:Int)=((m+n:Nat):Int):=by simp
 rw[e,ky hm]
theorem Vp (hx:dk f x= .int k (m:Int)) (hy:dk f y= .int k b) (hb:b=(n:Int)) (hm:m*n<iA k):
  (execOp (dk f) ⟨d, .binOp .mul t x y t2,ty,ps,af,g⟩).run P w= .ok (.value (.int k ((m*n:Nat):Int))) w:=by
 subst hb
 rw[Pl hx hy]
 have e:(m:Int)*(n:Int)=((m*n:Nat):Int):=by simp
 rw[e,ky hm]
theorem vT (B m:Nat) (h:m<2^B):(BitVec.ofInt B (m:Int)).toNat=m:=by
 rw[BitVec.toNat_ofInt]
 have e:((m:Int)%((2^B:Nat):Int)).toNat=m:=by
  rw[Int.emod_eq_of_lt (by omega) (by exact_mod_cast h)];simp
 exact e
theorem x5 (k:IntKind):iA k≤2^k.bits:=by cases k<;>simp[iA,IntKind.bits]
theorem zl (k:IntKind):∃j,iA k=2^j:=by
 cases k
 ·exact⟨0,rfl⟩
 ·exact⟨0,rfl⟩
 ·exact⟨31,rfl⟩
 ·exact⟨63,rfl⟩
 ·exact⟨8,rfl⟩
 ·exact⟨16,rfl⟩
 ·exact⟨32,rfl⟩
 ·exact⟨64,rfl⟩
theorem I1 {k:IntKind} (hm:m<iA k):m &&& n<iA k:=by
 obtain⟨j,e⟩:=zl k
 rw[e]at hm ⊢
 rw[Nat.and_comm]
 exact Nat.and_lt_two_pow _ hm
theorem VF {k:IntKind} (hm:m<iA k) (hn:n<iA k):m ||| n<iA k:=by
 obtain⟨j,e⟩:=zl k
 rw[e]at hm hn ⊢
 exact Nat.or_lt_two_pow hm hn
theorem Jw {k:IntKind} (hm:m<iA k) (hn:n<iA k):m ^^^ n<iA k:=by
 obtain⟨j,e⟩:=zl k
 rw[e]at hm hn ⊢
 exact Nat.xor_lt_two_pow hm hn
def andNot (m n:Nat):Nat:=m ^^^ (m &&& n)
theorem d4 (m n i:Nat):(andNot m n).testBit i=(m.testBit i&& !n.testBit i):=by
 simp only[andNot,Nat.testBit_xor,aa3]
 cases m.testBit i<;>cases n.testBit i<;>rfl
theorem G5 {k:IntKind} (hm:m<iA k):andNot m n<iA k:=Jw hm (I1 hm)
theorem sR (m n:Nat):andNot m n≤m:=by
 have e:andNot m n=m &&& andNot m n:=by
  refine aaz λi=> ?_
  rw[aa3,d4]
  cases m.testBit i<;>rfl
 rw[e]
 exact Nat.and_le_left
theorem nB {k:IntKind} {m:Nat} (h:m<iA k):(BitVec.ofInt k.bits (m:Int)).toNat=m:=vT _ _ (abe h (x5 k))
theorem m5 (hx:dk f x= .int k (m:Int)) (hy:dk f y= .int k b) (hb:b=(n:Int)) (hm:m<iA k) (hn:n<iA k):
  (execOp (dk f) ⟨d, .binOp .and t x y t2,ty,ps,af,g⟩).run P w= .ok (.value (.int k ((m &&& n:Nat):Int))) w:=by
 subst hb
 have e:(BitVec.ofInt k.bits (m:Int) &&& BitVec.ofInt k.bits (n:Int)).toNat=m &&& n:=by
  rw[BitVec.toNat_and,nB hm,nB hn]
 simp only[execOp,hx,hy,eqGuard,binOp,Op.intBits,e,ky (I1 (n:=n) hm)]
 simp
theorem A6 (hx:dk f x= .int k (m:Int)) (hy:dk f y= .int k b) (hb:b=(n:Int)) (hm:m<iA k) (hn:n<iA k):
  (execOp (dk f) ⟨d, .binOp .or t x y t2,ty,ps,af,g⟩).run P w= .ok (.value (.int k ((m ||| n:Nat):Int))) w:=by
 subst hb
 have e:(BitVec.ofInt k.bits (m:Int) ||| BitVec.ofInt k.bits (n:Int)).toNat=m ||| n:=by
  rw[BitVec.toNat_or,nB hm,nB hn]
 simp only[execOp,hx,hy,eqGuard,binOp,Op.intBits,e,ky (VF hm hn)]
 simp
theorem N7 (hx:dk f x= .int k (m:Int)) (hy:dk f y= .int k b) (hb:b=(n:Int)) (hm:m<iA k) (hn:n<iA k):
  (execOp (dk f) ⟨d, .binOp .xor t x y t2,ty,ps,af,g⟩).run P w= .ok (.value (.int k ((m ^^^ n:Nat):Int))) w:=by
 subst hb
 have e:(BitVec.ofInt k.bits (m:Int) ^^^ BitVec.ofInt k.bits (n:Int)).toNat=m ^^^ n:=by
  rw[BitVec.toNat_xor,nB hm,nB hn]
 simp only[execOp,hx,hy,eqGuard,binOp,Op.intBits,e,ky (Jw hm hn)]
 simp
theorem rl (hx:dk f x= .int k (m:Int)) (hy:dk f y= .int k b) (hb:b=(n:Int)) (hm:m<iA k) (hn:n<iA k):
  (execOp (dk f) ⟨d, .binOp .andNot t x y t2,ty,ps,af,g⟩).run P w= .ok (.value (.int k ((andNot m n:Nat):Int))) w:=by
 subst hb
 have e:(BitVec.ofInt k.bits (m:Int) &&& ~~~BitVec.ofInt k.bits (n:Int)).toNat=andNot m n:=by
  have h1:=vT _ _ (abe hm (x5 k))
  have h2:=vT _ _ (abe hn (x5 k))
  refine aaz λi=> ?_
  rw[d4,BitVec.testBit_toNat,BitVec.getLsbD_and,BitVec.getLsbD_not]
  rw[←BitVec.testBit_toNat,←BitVec.testBit_toNat,h1,h2]
  by_cases hi:i<k.bits
  ·simp[hi]
  ·have:m.testBit i=false:=acb (abe (abe hm (x5 k)) (aa8 (by omega) (by omega)))
   simp[this]
 simp only[execOp,hx,hy,eqGuard,binOp,Op.intBits,e,ky (G5 hm)]
 simp
def IW:IntKind→Nat
 | .i8=>0| .i16=>0| .i32=>31| .i64=>63| .u8=>8| .u16=>16| .u32=>32| .u64=>64
theorem Wq (k:IntKind) (j:Nat) (h:j<IW k):1*2^j<iA k:=by
 rw[abd]
 have e:iA k=2^IW k:=by cases k<;>rfl
 rw[e]
 exact acn (by decide) h
theorem jN {yk:IntKind} (hx:dk f x= .int k (m:Int)) (hy:dk f y= .int yk b) (hb:0≤b) (hlt:b≤k.bits) (hm:m*2^b.toNat<iA k):
  (execOp (dk f) ⟨d, .binOp .shl t x y t2,ty,ps,af,g⟩).run P w= .ok (.value (.int k ((m*2^b.toNat:Nat):Int))) w:=by
 have hn:¬b<0:=by omega
 have hmin:min b.toNat k.bits=b.toNat:=acF (by omega)
 have e:(m:Int)*2^b.toNat=((m*2^b.toNat:Nat):Int):=by simp
 simp[execOp,hx,hy,eqGuard,binOp,Op.shift,hn,hmin]
 rw[e,ky hm]
theorem US {yk:IntKind} (hx:dk f x= .int k a) (hy:dk f y= .int yk b) (hb:0≤b):
  (execOp (dk f) ⟨d, .binOp .shl t x y t2,ty,ps,af,g⟩).run P w= .ok (.value (.int k (k.wrap (a*2^(min b.toNat k.bits))))) w:=by
 have hn:¬b<0:=by omega
 simp[execOp,hx,hy,eqGuard,binOp,Op.shift,hn]
theorem qQ {yk:IntKind} (hx:dk f x= .int k (m:Int)) (hy:dk f y= .int yk b) (hb:0≤b) (hlt:b≤k.bits):
  (execOp (dk f) ⟨d, .binOp .shr t x y t2,ty,ps,af,g⟩).run P w= .ok (.value (.int k ((m/2^b.toNat:Nat):Int))) w:=by
 have hn:¬b<0:=by omega
 have hmin:min b.toNat k.bits=b.toNat:=acF (by omega)
 have e:(m:Int).fdiv (2^b.toNat)=((m/2^b.toNat:Nat):Int):=by
  have e2:(2:Int)^b.toNat=((2^b.toNat:Nat):Int):=by simp
  have h0:(0:Int)≤((2^b.toNat:Nat):Int):=Int.natCast_nonneg _
  rw[e2,Int.fdiv_eq_ediv_of_nonneg _ h0]
  simp
 simp[execOp,hx,hy,eqGuard,binOp,Op.shift,hn,hmin,e]
theorem eR {b:Bool} (h:dk f x= .bool b):(execOp (dk f) ⟨d, .unOp .not t x,ty,ps,af,g⟩).run P w= .ok (.value (.bool (!b))) w:=by
 simp[execOp,h,Op.unary]
theorem V5 {a b:Bool} (hx:dk f x= .bool a) (hy:dk f y= .bool b) (ht:P.underlying t=some .bool):(execOp (dk f) ⟨d, .binOp .eql t x y t2,ty,ps,af,g⟩).run P w= .ok (.value (.bool (decide (a=b)))) w:=by
 have e:decide (a=b)=(a==b):=by cases a<;>cases b<;>rfl
 rw[e]
 have h:=run_equalIn_bool' (P:=P) w 9999 t a b ht
 simp[execOp,hx,hy,eqGuard,binOp,Op.equal,Op.maxDepth,h]
variable {v0 v1 v2 v3:Value}
theorem cZ (h:dk f x= .tuple #[v0,v1]):(execOp (dk f) ⟨d, .extract x 0,ty,ps,af,g⟩).run P w= .ok (.value v0) w:=by simp[execOp,h,Instr.extract]
theorem c7 (h:dk f x= .tuple #[v0,v1]):(execOp (dk f) ⟨d, .extract x 1,ty,ps,af,g⟩).run P w= .ok (.value v1) w:=by simp[execOp,h,Instr.extract]
theorem gR (h:dk f x= .tuple #[v0,v1,v2]):(execOp (dk f) ⟨d, .extract x 0,ty,ps,af,g⟩).run P w= .ok (.value v0) w:=by simp[execOp,h,Instr.extract]
theorem jm (h:dk f x= .tuple #[v0,v1,v2]):(execOp (dk f) ⟨d, .extract x 1,ty,ps,af,g⟩).run P w= .ok (.value v1) w:=by simp[execOp,h,Instr.extract]
theorem iQ (h:dk f x= .tuple #[v0,v1,v2]):(execOp (dk f) ⟨d, .extract x 2,ty,ps,af,g⟩).run P w= .ok (.value v2) w:=by simp[execOp,h,Instr.extract]
theorem Fm (h:dk f x= .tuple #[v0,v1,v2,v3]):(execOp (dk f) ⟨d, .extract x 0,ty,ps,af,g⟩).run P w= .ok (.value v0) w:=by simp[execOp,h,Instr.extract]
theorem Gs (h:dk f x= .tuple #[v0,v1,v2,v3]):(execOp (dk f) ⟨d, .extract x 1,ty,ps,af,g⟩).run P w= .ok (.value v1) w:=by simp[execOp,h,Instr.extract]
theorem F8 (h:dk f x= .tuple #[v0,v1,v2,v3]):(execOp (dk f) ⟨d, .extract x 2,ty,ps,af,g⟩).run P w= .ok (.value v2) w:=by simp[execOp,h,Instr.extract]
theorem Gi (h:dk f x= .tuple #[v0,v1,v2,v3]):(execOp (dk f) ⟨d, .extract x 3,ty,ps,af,g⟩).run P w= .ok (.value v3) w:=by simp[execOp,h,Instr.extract]
theorem NT {k':IntKind} {desc:TypeDesc} (h:dk f x= .int k a) (hs:P.underlying t=some desc) (ht:P.underlying t2=some (.int k')):
  (execOp (dk f) ⟨d, .convert t t2 x,ty,ps,af,g⟩).run P w= .ok (.value (.int k' (k'.wrap a))) w:=by
 simp[execOp,h,convert,run_underlying hs,run_underlying ht,Conv.intToInt]
theorem i7 {k':IntKind} {desc:TypeDesc} (h:dk f x= .int k (m:Int)) (hs:P.underlying t=some desc) (ht:P.underlying t2=some (.int k')) (hm:m<iA k'):
  (execOp (dk f) ⟨d, .convert t t2 x,ty,ps,af,g⟩).run P w= .ok (.value (.int k' (m:Int))) w:=by rw[NT h hs ht,ky hm]
theorem CF {P:Program} {w:World} {q:Nat} {vs:Array Value} (h:cX P q=true):(callFunc q vs).run P w= .ok (.enter q vs) w:=by
 unfold cX at h
 cases hf:P.funcs[q]? with
 |none=>simp[hf]at h
 |some fn=>
  simp only[hf,th,Bool.not_eq_true',beq_eq_false_iff_ne,ne_eq]at h
  obtain⟨b,hb⟩:=Option.isSome_iff_exists.1 h.2
  simp[callFunc,hf,h.1,hb]
theorem ip {q:Nat} {args:Array Operand} {tys:Array TypeId} {first cap:Array Value} {vs:Array Value} (hq:dk f c= .func (.func q) first cap) (hc:cX P q=true) (hv:(first++args.map (dk f))++cap=vs):
  (execOp (dk f) ⟨d, .call ⟨.value c,args,tys⟩,ty,ps,af,g⟩).run P w= .ok (.enter q vs) w:=by
 subst hv
 simp[execOp,resolve,hq,Deferred.ofValue,invoke,CF hc]
theorem SN {q:Nat} {tys:Array TypeId} (hc:cX P q=true):
  (execOp (dk f) ⟨d, .call ⟨.value (.func q),#[],tys⟩,ty,ps,af,g⟩).run P w= .ok (.enter q #[]) w:=ip rfl hc fD
theorem JB {q:Nat} {tys:Array TypeId} {x0:Operand} (hc:cX P q=true) (h0:dk f x0=v0):
  (execOp (dk f) ⟨d, .call ⟨.value (.func q),#[x0],tys⟩,ty,ps,af,g⟩).run P w= .ok (.enter q #[v0]) w:=ip rfl hc (by simp[h0])
theorem yc {q:Nat} {tys:Array TypeId} {x0 x1:Operand} (hc:cX P q=true) (h0:dk f x0=v0) (h1:dk f x1=v1):
  (execOp (dk f) ⟨d, .call ⟨.value (.func q),#[x0,x1],tys⟩,ty,ps,af,g⟩).run P w= .ok (.enter q #[v0,v1]) w:=ip rfl hc (by simp[h0,h1])
theorem DY {q:Nat} {tys:Array TypeId} {x0 x1 x2:Operand} (hc:cX P q=true) (h0:dk f x0=v0) (h1:dk f x1=v1) (h2:dk f x2=v2):
  (execOp (dk f) ⟨d, .call ⟨.value (.func q),#[x0,x1,x2],tys⟩,ty,ps,af,g⟩).run P w= .ok (.enter q #[v0,v1,v2]) w:=ip rfl hc (by simp[h0,h1,h2])
theorem zw {q:Nat} {tys:Array TypeId} {x0 x1:Operand} (hq:dk f c= .func (.func q) #[] #[]) (hc:cX P q=true) (h0:dk f x0=v0) (h1:dk f x1=v1):
  (execOp (dk f) ⟨d, .call ⟨.value c,#[x0,x1],tys⟩,ty,ps,af,g⟩).run P w= .ok (.enter q #[v0,v1]) w:=ip hq hc (by simp[h0,h1])
theorem eS {q:Nat} {caps:Array Operand} {vs:Array Value} (h:caps.map (dk f)=vs):
  (execOp (dk f) ⟨d, .makeFunc (.func q) #[] caps,ty,ps,af,g⟩).run P w= .ok (.value (.func (.func q) #[] vs)) w:=by
 subst h;simp[execOp,Instr.makeFunc]
end
theorem Fl {P:Program} (w:World) (E:Value→Value→Sem Bool) (A B:Nat→Sem Value) (r:Nat→Bool) (x y:Nat→Value) (n:Nat)
  (hA:∀i,i<n→(A i).run P w= .ok (x i) w) (hB:∀i,i<n→(B i).run P w= .ok (y i) w) (hE:∀i,i<n→(E (x i) (y i)).run P w= .ok (r i) w):
  Sem.run P (do
   for i in [0:n] do
    if !(←E (←A i) (←B i))then return false
   pure true) w= .ok ((List.range n).all r) w:=by
 simp only[Std.Legacy.Range.forIn_eq_forIn_range',Std.Legacy.Range.size,acC,ab5,Nat.div_one]
 rw[List.range_eq_range']
 have key:∀l:List Nat,(∀i∈l,i<n)→Sem.run P (forIn l ((none,()):Option Bool×Unit) λi _=>do
    let a ←A i
    let b ←B i
    let q ←E a b
    if (!q)=true then pure (ForInStep.done (some false,()))else pure (ForInStep.yield (none,()))) w= .ok (if l.all r then (none,())else (some false,())) w:=by
  intro l
  induction l with
  |nil=>intro _;simp
  |cons i l ih=>
   intro hl
   have hi:=hl i (aa9 ..)
   have ih':=ih (λj hj=>hl j (abf _ hj))
   simp only[List.forIn_cons,Sem.run_bind,hA i hi,hB i hi,hE i hi,Result.andThen_ok,ab1]
   by_cases hr:r i=true
   ·simpa [hr] using ih'
   ·simp[hr]
 rw[Sem.run_bind,key (List.range' 0 n) fD,Result.andThen_ok]
 cases (List.range' 0 n).all r<;>simp
theorem mY {P:Program} (w:World) (d n:Nat) (t e:TypeId) (xs ys:Array Value) (x y:Nat→Value) (r:Nat→Bool) (ht:P.underlying t=some (.array n e)) (hs:(P.info? e).map (·.size)=some 1) (ha:(isAgg e).run P w= .ok false w)
  (hx:∀i,i<n→xs[i]? =some (x i)) (hy:∀i,i<n→ys[i]? =some (y i)) (hE:∀i,i<n→(Op.equalIn d e (x i) (y i)).run P w= .ok (r i) w):
  (Op.equalIn (d+1) t (.agg xs) (.agg ys)).run P w= .ok ((List.range n).all r) w:=by
 obtain⟨j5,hj5,hs5⟩:=an.1 hs
 have h:=Fl (P:=P) w (Op.equalIn d e) (λi=>part e xs (i*1)) (λi=>part e ys (i*1)) r x y n
  (λi hi=>by simp[part,ha,hx i hi]) (λi hi=>by simp[part,ha,hy i hi]) hE
 simp only[Op.equalIn,Sem.run_bind,run_underlying ht,Result.andThen_ok,sizeOf,typeInfo]
 simp only[run_program,hj5,Sem.run_pure,Result.andThen_ok,hs5]
 simp only[Sem.run_bind]at h
 exact h
end
section
open Go Go.RowKit
def At (w:World) (b:Nat) (c:Array Value) (T:TypeId):Prop:=w.heap[b]? =some (.cells c T (0,0))
section
variable {w w':World} {b b':Nat} {c:Array Value} {T:TypeId} {o:Nat} {v:Value}
theorem At.lt (h:At w b c T):b<w.heap.size:=gQ h
theorem dC.at (h:dC w w') (k:At w b c T):At w' b c T:=dC.block h k
instance {w w':World} {b:Nat} {c:Array Value} {T:TypeId}:Kp w w' (At w b c T) (At w' b c T):=⟨dC.at⟩
theorem At.grown {row:Option Nat} (k:At w b c T) (h:w.grownBy w' row) (hne:some b≠row):At w' b c T:=by
 unfold At
 rw[h.block b k.lt hne]
 exact k
theorem At.cell (k:At w b c T) (hc:c[o]? =some v):w.cell? ⟨b,o,none⟩=some v:=by
 rw[cell_of_row w b o c T (0,0) k];exact hc
theorem ac6 {T':TypeId} {c':Array Value} (k:At w b c T) (k':At w b' c' T') (hT:T≠T'):b≠b':=by
 rintro rfl
 unfold At at k k'
 rw[k]at k'
 simp only[Option.some.injEq,Obj.cells.injEq]at k'
 exact hT k'.2.1
theorem adp (h:w.grownBy w' none):dC w w':=⟨h.os,h.tape,h.output,h.size,λk hk=>h.block k hk fD⟩
theorem dC.grown (h:dC w w') (row:Option Nat):w.grownBy w' row:=⟨Below.os h,Below.tape h,Below.output h,Below.size h,λk hk _=>Below.block h k hk⟩
theorem dC.cell (h:dC w w') {p:Addr} {v:Value} (k:w.cell? p=some v):w'.cell? p=some v:=by
 rw[Below.cell h (World.block_lt_of_cell? w p k)];exact k
theorem dg {N:Nat} {a:World} {row:Option Nat} (h:Below N a w) (hg:w.grownBy w' row) (hN:N≤a.heap.size) (hr:∀k,row=some k→N≤k):Below N a w':=
 Below.grown h hg (go hN (Below.size h)) hr
end
theorem iu (b o k:Nat):(⟨b,o,none⟩:Addr).add k=⟨b,o+k,none⟩:=by
 unfold Addr.add
 split
 ·subst_vars;rfl
 ·rfl
section
variable {P:Program} {f:Nat→Value} {w:World} {d:Option Nat} {ty:TypeId} {ps:String} {af:Array Edge} {g:Option (Nat×Bool)} {x y:Operand}
variable {t:TypeId} {b o:Nat} {v:Value} {c:Array Value} {T:TypeId} {K:Value→World→Prop}
theorem cD (hx:dk f x= .pointer (some ⟨b,o,none⟩)) (hT:eJ P t=true) (hc:w.cell? ⟨b,o,none⟩=some v):
  (execOp (dk f) ⟨d, .load t x,ty,ps,af,g⟩).run P w= .ok (.value v) w:=by
 have h1:=congrFun (nb hT).1 w
 simp[execOp,hx,Instr.loadAt,Instr.sureAddr,loadVar,h1,load,Sem.run,hc]
theorem run_loadCells_list (P:Program) (w:World) (a:Addr):∀(vs:List Value) (i:Nat) (acc:Array Value),(∀j u,vs[j]? =some u→w.cell? (a.add (i+j))=some u)→
  (loadCellsFrom a i vs.length acc).run P w= .ok (acc++vs.toArray) w
 |[],i,acc,_=>by simp[loadCellsFrom]
 |u::r,i,acc,h=>by
  have h0:=h 0 u rfl
  rw[ab7]at h0
  have ih:=run_loadCells_list P w a r (i+1) (acc.push u) (λj v hv=>by have:=h (j+1) v (by simpa using hv);rwa [show i+1+j=i+(j+1) from by omega])
  simp only[aa5,loadCellsFrom,Sem.run_bind,load,Sem.run,h0,Result.andThen_ok,ih]
  simp
theorem x6 {vs:List Value} {k:Nat} (hx:dk f x= .pointer (some ⟨b,o,none⟩)) (hT:kf P t=some k) (hk:k=vs.length) (hc:∀j u,vs[j]? =some u→w.cell? ⟨b,o+j,none⟩=some u):
  (execOp (dk f) ⟨d, .load t x,ty,ps,af,g⟩).run P w= .ok (.value (.agg vs.toArray)) w:=by
 subst hk
 have h1:=congrFun (mg hT).1 w
 have h2:=congrFun (mg hT).2 w
 have h3:=run_loadCells_list P w ⟨b,o,none⟩ vs 0 #[] (λj u hu=>by rw[iu,abP];exact hc j u hu)
 simp[execOp,hx,Instr.loadAt,Instr.sureAddr,loadVar,h1,h2,loadCells,h3]
theorem cz {k:Nat} (hx:dk f x= .pointer (some ⟨b,0,none⟩)) (hT:kf P t=some k) (hk:k=c.size) (hm:At w b c T):
  (execOp (dk f) ⟨d, .load t x,ty,ps,af,g⟩).run P w= .ok (.value (.agg c)) w:=by
 have h:=x6 (P:=P) (f:=f) (w:=w) (d:=d) (ty:=ty) (ps:=ps) (af:=af) (g:=g) (x:=x) (t:=t) (vs:=c.toList) hx hT (by simpa using hk)
  (λj u hu=>by rw[abP];exact hm.cell (by simpa using hu))
 simpa using h
theorem iq {v0 v1:Value} (hx:dk f x= .pointer (some ⟨b,o,none⟩)) (hT:kf P t=some 2) (h0:w.cell? ⟨b,o,none⟩=some v0) (h1:w.cell? ⟨b,o+1,none⟩=some v1):
  (execOp (dk f) ⟨d, .load t x,ty,ps,af,g⟩).run P w= .ok (.value (.agg #[v0,v1])) w:=
 x6 (vs:=[v0,v1]) hx hT rfl (λj u hu=>by
  match j,hu with
  |0,hu=>simp at hu;subst hu;exact h0
  |1,hu=>simp at hu;subst hu;exact h1)
theorem jc {v0 v1 v2:Value} (hx:dk f x= .pointer (some ⟨b,o,none⟩)) (hT:kf P t=some 3) (h0:w.cell? ⟨b,o,none⟩=some v0) (h1:w.cell? ⟨b,o+1,none⟩=some v1) (h2:w.cell? ⟨b,o+2,none⟩=some v2):
  (execOp (dk f) ⟨d, .load t x,ty,ps,af,g⟩).run P w= .ok (.value (.agg #[v0,v1,v2])) w:=
 x6 (vs:=[v0,v1,v2]) hx hT rfl (λj u hu=>by
  match j,hu with
  |0,hu=>simp at hu;subst hu;exact h0
  |1,hu=>simp at hu;subst hu;exact h1
  |2,hu=>simp at hu;subst hu;exact h2)
theorem eQ {v0 v1 v2 v3:Value} (hx:dk f x= .pointer (some ⟨b,o,none⟩)) (hT:kf P t=some 4) (h0:w.cell? ⟨b,o,none⟩=some v0) (h1:w.cell? ⟨b,o+1,none⟩=some v1) (h2:w.cell? ⟨b,o+2,none⟩=some v2) (h3:w.cell? ⟨b,o+3,none⟩=some v3):
  (execOp (dk f) ⟨d, .load t x,ty,ps,af,g⟩).run P w= .ok (.value (.agg #[v0,v1,v2,v3])) w:=
 x6 (vs:=[v0,v1,v2,v3]) hx hT rfl (λj u hu=>by
  match j,hu with
  |0,hu=>simp at hu;subst hu;exact h0
  |1,hu=>simp at hu;subst hu;exact h1
  |2,hu=>simp at hu;subst hu;exact h2
  |3,hu=>simp at hu;subst hu;exact h3)
theorem lR (w:World) (c:Array Value) (T:TypeId):At (w.alloc (.cells c T)) w.heap.size c T:=heap_alloc_new w _
theorem cK {z:Value} (hz:dW P t=some z) (hc:z.cells=c)
  (hK:∀b w',b=w.heap.size→dC w w'→At w' b c t→K (.pointer (some ⟨b,0,none⟩)) w'):Yd P ⟨d, .alloc t,ty,ps,af,g⟩ f w K:=by
 subst hc
 unfold dW at hz
 obtain⟨i,hi,hzz⟩:=Do.1 hz
 refine .val (w':=w.alloc (.cells z.cells t)) ?_ (hK w.heap.size _ rfl (dC.alloc w _) (lR w _ _))
 simp[execOp,Instr.alloc,zeroValue,typeInfo,hi,hzz,newVar,newRow]
theorem dw (hx:dk f x=v) (hc:v.cells=c)
  (hK:∀b w',b=w.heap.size→dC w w'→At w' b c t→K (.pointer (some ⟨b,0,none⟩)) w'):Yd P ⟨d, .box t x,ty,ps,af,g⟩ f w K:=by
 subst hx hc
 refine .val (w':=w.alloc (.cells (dk f x).cells t)) ?_ (hK w.heap.size _ rfl (dC.alloc w _) (lR w _ _))
 simp[execOp,Instr.box,newVar,newRow]
theorem xt (w:World) (b o:Nat) (v:Value):w.grownBy (w.setCell ⟨b,o,none⟩ v) (some b):=
 ⟨rfl,rfl,rfl,by simp[World.setCell],λk _ hne=>Below.heap_setCell _ _ _ _ (by intro e;exact hne A3)⟩
theorem H7 (P:Program) (hv:v.oneCell'=true) (hm:At w b c T) (ho:o<c.size):
  (store ⟨b,o,none⟩ v).run P w= .ok () (w.setCell ⟨b,o,none⟩ v):=by
 have hc:w.cell? ⟨b,o,none⟩=some c[o]:=hm.cell (by simp[ho])
 have hf:w.frozen? ⟨b,o,none⟩=false:=frozen_of_row w b o c T hm
 cases v<;>first|(simp[Value.oneCell']at hv;done)|simp[store,Sem.run,hc,hf]
theorem Ih (hm:At w b c T) (v:Value):At (w.setCell ⟨b,o,none⟩ v) b (c.setIfInBounds o v) T:=heap_setCell_same w b o c T v hm
theorem db (hx:dk f x= .pointer (some ⟨b,o,none⟩)) (hy:dk f y=v) (hT:eJ P t=true) (hv:v.oneCell'=true) (hm:At w b c T) (ho:o<c.size)
  (hK:∀w',w.grownBy w' (some b)→At w' b (c.setIfInBounds o v) T→K undef w'):Yd P ⟨d, .store t x y,ty,ps,af,g⟩ f w K:=by
 refine .skip (w':=w.setCell ⟨b,o,none⟩ v) ?_ (hK _ (xt w b o v) (Ih hm v))
 have h2:=congrFun (nb hT).2 w
 have hcs:v.cells= #[v]:=by cases v<;>first|rfl|simp[Value.oneCell']at hv
 have hs:=H7 P hv hm ho
 have ha:(⟨b,o,none⟩:Addr).add 0=⟨b,o,none⟩:=rfl
 simp[execOp,hx,hy,Instr.storeAt,Instr.sureAddr,storeVar,h2,hcs,storeCells,ha,hs]
theorem cA {k:Nat} {c':Array Value} (hx:dk f x= .pointer (some ⟨b,0,none⟩)) (hy:dk f y= .agg c') (hT:kf P t=some k) (hk:k=c'.size) (hm:At w b c T) (hs0:k=c.size) (hv0:c'.toList.all Value.oneCell'=true)
  (hK:∀w',w.grownBy w' (some b)→At w' b c' T→K undef w'):Yd P ⟨d, .store t x y,ty,ps,af,g⟩ f w K:=by
 subst hk
 have hs:c'.size=c.size:=hs0
 have h2:=congrFun (mg hT).2 w
 have hv:∀v∈c'.toList,v.oneCell'=true:=λv h=>aa2.1 hv0 v h
 have hst:=run_storeCells_at P b 0 T c'.toList 0 c w hm (by simp[hs]) hv
 have e:(c.toList.take (0+0)++c'.toList++c.toList.drop (0+0+c'.toList.length)).toArray=c':=by
  have h0:c.toList.drop c'.toList.length=[]:=List.drop_of_length_le (by simp[hs])
  simp only[ab7,abP,List.take_zero,abG,h0,abK,Array.toArray_toList]
 rw[e]at hst
 refine .skip (w':=w.setRow b c') ?_ (hK _ ⟨rfl,rfl,rfl,by simp,λj _ hj=>setRow_other w b j _ (λe=>hj A3)⟩ (setRow_heap w b c c' T (0,0) hm))
 simp[execOp,hx,hy,Instr.storeAt,Instr.sureAddr,storeVar,h2,Value.cells,hst]
theorem si {k q:Nat} (hx:dk f x= .pointer (some ⟨b,o,none⟩)) (hT:d5 P t k=some q):
  (execOp (dk f) ⟨d, .fieldAddr t x k,ty,ps,af,g⟩).run P w= .ok (.value (.pointer (some ⟨b,o+q,none⟩))) w:=by
 unfold d5 at hT
 cases hu:P.underlying t with
 |none=>simp[hu]at hT
 |some desc=>
  cases desc<;>simp only[hu,reduceCtorEq]at hT
  obtain⟨fd,hfd,hz⟩:=Do.1 hT
  split at hz
  case isFalse=>cases hz
  rename_i hany
  obtain rfl:=aaY hz
  cases hi:P.info? fd.type with
  |none=>simp[hi]at hany
  |some i=>
  simp only[hi,Option.any_some,bne_iff_ne,ne_eq]at hany
  have hn:=hany
  simp[execOp,hx,Instr.fieldAt,run_underlying hu,hfd,Instr.sureAddr,fieldPlace,sizeOf,typeInfo,hi,hn,iu]
theorem fx {n sz:Nat} {j:Int} {k:IntKind} (hx:dk f x= .pointer (some ⟨b,o,none⟩)) (hy:dk f y= .int k j) (hT:LV P t=some (n,sz)) (h0:0≤j) (h1:j<n):
  (execOp (dk f) ⟨d, .indexAddr t x y,ty,ps,af,g⟩).run P w= .ok (.value (.pointer (some ⟨b,o+j.toNat*sz,none⟩))) w:=by
 unfold LV at hT
 cases hu:P.underlying t with
 |none=>simp[hu]at hT
 |some desc=>
  cases desc<;>simp[hu]at hT
  obtain⟨i,hi,rfl,rfl⟩:=hT
  simp[execOp,hx,hy,Instr.indexAt,run_underlying hu,asIntOf,Instr.sureAddr,h0,h1,sizeOf,typeInfo,hi,iu]
def Eb (v:Value):Option Addr:=match v with| .slice a _ _=>a|_=>none
def AH (v:Value):Nat:=match v with| .slice (some a) _ _=>a.block|_=>0
def FG (v:Value):Nat:=match v with| .slice (some a) _ _=>a.off|_=>0
def jn (v:Value):Nat:=match v with| .slice _ _ c=>c|_=>0
end
structure Sl (w:World) (sz:Nat) (v:Value) (n:Nat) (xs:List Value):Prop where
 form:∃a,v= .slice a n (jn v)∧n≤jn v∧(a=none→jn v=0)∧∀a',a=some a'→0<jn v→a'=⟨AH v,FG v,none⟩
 len:xs.length=n*sz
 cell:∀j u,xs[j]? =some u→w.cell? ⟨AH v,FG v+j,none⟩=some u
section
variable {w w':World} {sz n:Nat} {v:Value} {xs:List Value}
theorem Sl.nil (w:World) (sz:Nat):Sl w sz (.slice none 0 0) 0 []:=⟨⟨none,rfl,am _,λ_=>rfl,λ_ h _=>by cases h⟩,by simp,λj u h=>by simp at h⟩
theorem dC.sl (h:dC w w') (k:Sl w sz v n xs):Sl w' sz v n xs:=⟨k.form,k.len,λj u hu=>h.cell (k.cell j u hu)⟩
theorem Sl.eqn (k:Sl w sz v n xs) (hn:0<n):v= .slice (some ⟨AH v,FG v,none⟩) n (jn v):=by
 obtain⟨a,e,h1,h2,h3⟩:=k.form
 cases a with
 |none=>have:=h2 rfl;omega
 |some a'=>
  rw[h3 a' rfl (by omega)]at e
  exact e
theorem adq {N:Nat} {T:TypeId} (h:w.ownsRow N T sz v n xs):Sl w sz v n xs:=by
 obtain⟨hl,h⟩:=h
 rcases h with ⟨rfl,rfl⟩|⟨g,cap,cur,rfl,hg,hh,hnc,hcm,hcs,ht⟩
 ·have:xs=[]:=abk (by simpa using hl)
  subst this
  exact Sl.nil w sz
 ·refine⟨⟨some ⟨g,0,none⟩,rfl,hnc,λh=>(by cases h),λa' h _=>by cases h;rfl⟩,hl,λj u hu=> ?_⟩
  have h1:w.cell? ⟨g,0+j,none⟩=some u:=by
   rw[abP,cell_of_row w g j cur T (0,0) hh]
   rw[←ht,List.getElem?_take]at hu
   split at hu
   ·simpa using hu
   ·cases hu
  exact h1
theorem dC.own {N:Nat} {T:TypeId} (h:dC w w') (k:w.ownsRow N T sz v n xs):w'.ownsRow N T sz v n xs:=k.kept (h.grown none) (by cases v.ownBlock<;>simp)
theorem pW {N b:Nat} {T T':TypeId} {c:Array Value} (k:w.ownsRow N T sz v n xs) (hm:At w b c T') (hT:T'≠T):some b≠v.ownBlock:=by
 intro e
 rcases k.2 with ⟨rfl,rfl⟩|⟨g,cap,cur,rfl,hg,hh,_⟩
 ·simp[Value.ownBlock]at e
 ·simp[Value.ownBlock]at e
  subst e
  unfold At at hm
  rw[hm]at hh
  simp only[Option.some.injEq,Obj.cells.injEq]at hh
  exact hT hh.2.1
theorem GC {N N':Nat} {T T':TypeId} {sz' n':Nat} {v':Value} {xs':List Value} (k:w.ownsRow N T sz v n xs) (k':w.ownsRow N' T' sz' v' n' xs') (hT:T'≠T):v'.ownBlock=none∨v'.ownBlock≠v.ownBlock:=by
 rcases k'.2 with ⟨rfl,rfl⟩|⟨g,cap,cur,rfl,hg,hh,_⟩
 ·exact .inl rfl
 ·exact .inr (pW k (b:=g) (c:=cur) (T':=T') hh hT)
end
section
variable {P:Program} {f:Nat→Value} {w:World} {d:Option Nat} {ty:TypeId} {ps:String} {af:Array Edge} {g:Option (Nat×Bool)} {x y:Operand}
variable {t:TypeId} {b o:Nat} {v u:Value} {c:Array Value} {T e:TypeId} {K:Value→World→Prop} {n sz by_:Nat} {xs ys:List Value}
theorem dm {j:Int} {k:IntKind} {w0:World} (hx:dk f x=v) (hs:Sl w0 sz v n xs) (hy:dk f y= .int k j) (hT:fl P t=some (e,sz,by_)) (h0:0≤j) (h1:j<n):
  (execOp (dk f) ⟨d, .indexAddr t x y,ty,ps,af,g⟩).run P w= .ok (.value (.pointer (some ⟨AH v,FG v+j.toNat*sz,none⟩))) w:=by
 unfold fl at hT
 have hv:=hs.eqn (by omega)
 cases hu:P.underlying t with
 |none=>simp[hu]at hT
 |some desc=>
  cases desc<;>simp[hu]at hT
  obtain⟨i,hi,rfl,rfl,rfl⟩:=hT
  generalize AH v=B at*
  generalize FG v=O at*
  generalize jn v=C at*
  subst hv
  simp[execOp,hx,hy,Instr.indexAt,run_underlying hu,asIntOf,h0,h1,sizeOf,typeInfo,hi,iu]
theorem de {w0:World} {k:TypeId} {by2:Nat×Nat} (hx:dk f x=v) (hs:Sl w0 sz v n xs) (hT:fl P t=some (k,by2)):
  (execOp (dk f) ⟨d, .call ⟨.builtin .len,#[x],#[t]⟩,ty,ps,af,g⟩).run P w= .ok (.value (.int .i64 (n:Int))) w:=by
 unfold fl at hT
 obtain⟨a,hv,_⟩:=hs.form
 cases hu:P.underlying t with
 |none=>simp[hu]at hT
 |some desc=>
  cases desc<;>simp[hu]at hT
  generalize jn v=C at*
  subst hv
  simp[execOp,resolve,invoke,builtin,hx,Builtin.len_,run_underlying hu,goInt]
theorem Lf (l:List Value):∀(k:Nat) (cs:Array Value),k+l.length≤cs.size→
  (l.zipIdx k).foldl (λcs (p:Value×Nat)=>cs.setIfInBounds (0+p.2) p.1) cs=(cs.toList.take k++l++cs.toList.drop (k+l.length)).toArray:=by
 induction l with
 |nil=>intro k cs _;simp
 |cons u r ih=>
  intro k cs h
  simp only[aa5]at h
  rw[List.zipIdx_cons,acG,ih (k+1) _ iw]
  have:=list_seg_step cs.toList k u r (by simpa using h)
  simp only[abP,Array.toList_setIfInBounds]
  rw[this]
  rfl
theorem My (u:Value) (z:Array Value) (sz:Nat) (hu:u.cells.size=sz) (hz:z.size=sz):Instr.fill (λi=>some (i*sz,sz)) z [(0,u)]=some u.cells:=by
 have h:=Lf u.cells.toList 0 z (by simp[hu,hz])
 have e0:z.toList.drop (0+u.cells.toList.length)=[]:=List.drop_of_length_le (by simp[hu,hz])
 rw[e0]at h
 simp only[List.take_zero,abG,abK,Array.toArray_toList]at h
 simp only[Instr.fill,hu,ach,abP,hz,ne_eq,not_true_eq_false,decide_false,Nat.lt_irrefl,gt_iff_lt,Bool.or_self,ack,if_false]
 rw[←Array.foldl_toList,Array.toList_zipIdx]
 simp only[abP]at h
 rw[h]
theorem eC (hx:dk f x=u) (hT:fl P t=some (e,sz,by_)) (hz:(dW P e).map (λz=>z.cells.size)=some sz) (hu:u.cells.size=sz) (hsz:0<sz) (hsz2:sz≤100)
  (hK:∀b w',b=w.heap.size→dC w w'→At w' b u.cells e→K (.slice (some ⟨b,0,none⟩) 1 1) w'):Yd P ⟨d, .buildSlice t 1 #[(0,x)],ty,ps,af,g⟩ f w K:=by
 obtain⟨z,hz,hzs⟩:=an.1 hz
 unfold dW at hz
 obtain⟨i,hi,hzz⟩:=Do.1 hz
 unfold fl at hT
 cases hun:P.underlying t with
 |none=>simp[hun]at hT
 |some desc=>
  cases desc<;>simp[hun]at hT
  rename_i e'
  obtain⟨i',hi',rfl,h1,rfl⟩:=hT
  obtain rfl:i'=i:=by rw[hi]at hi';exact(aaY hi').symm
  refine .val (w':=w.alloc (.cells u.cells e')) ?_ (hK w.heap.size _ rfl (dC.alloc w _) (lR w _ _))
  have hbig:¬16777216<sz:=by omega
  have hne:¬sz=0:=by omega
  have hf:=My u ((Array.range sz).map (z.cells[·%z.cells.size]!)) sz hu fD
  simp[execOp,hx,Instr.buildSlice,run_underlying hun,sizeOf,typeInfo,hi,h1,zeroValue,hzz,hne,hbig,newRow,hf]
theorem dR {N m:Nat} {v2:Value} (hx:dk f x=v) (hy:dk f y=v2) (hT:fl P t=some (e,sz,by_)) (hz:(dW P e).map (λz=>z.cells.size)=some sz) (hsz:0<sz)
  (ho:w.ownsRow N e sz v n xs) (hs:Sl w sz v2 m ys) (h10:ys.all Value.oneCell'=true) (hN:N≤w.heap.size) (hb:(n+m)*by_≤140737488355328) (hm:n+m≤9223372036854775807)
  (hK:∀v' w',w.grownBy w' v.ownBlock→w'.ownsRow N e sz v' (n+m) (xs++ys)→K v' w'):Yd P ⟨d, .call ⟨.builtin .append,#[x,y],#[t,t]⟩,ty,ps,af,g⟩ f w K:=by
 have h1:∀u∈ys,u.oneCell'=true:=λu h=>aa2.1 h10 u h
 obtain⟨z,hz,hzs⟩:=an.1 hz
 unfold dW at hz
 obtain⟨i,hi,hzz⟩:=Do.1 hz
 unfold fl at hT
 cases hun:P.underlying t with
 |none=>simp[hun]at hT
 |some desc=>
  cases desc<;>simp[hun]at hT
  rename_i e'
  obtain⟨i',hi',rfl,h3,rfl⟩:=hT
  obtain rfl:i'=i:=by rw[hi]at hi';exact(aaY hi').symm
  by_cases hm0:m=0
  ·subst hm0
   have hys:ys=[]:=abk (by simpa using hs.len)
   subst hys
   have hrun:(Builtin.append_ #[t,t] ty #[v,v2]).run P w= .ok v w:=by
    obtain⟨a2,hv2,_⟩:=hs.form
    generalize jn v2=c2 at hv2
    subst hv2
    rcases ho.2 with ⟨rfl,rfl⟩|⟨q,cap,cur,rfl,hg,hh,hnc,hcm,hcs,ht⟩
    ·simp[Builtin.append_,run_underlying hun,sizeOf,typeInfo,hi,Builtin.lenOf,Builtin.firstCells]
     cases a2<;>simp[loadCells,loadCellsFrom]
    ·cases a2<;>simp[Builtin.append_,run_underlying hun,sizeOf,typeInfo,hi,Builtin.lenOf,Builtin.firstCells,loadCells,loadCellsFrom,hnc,storeCells]
   refine .val (v:=v) (w':=w) ?_ (hK v w (World.grownBy.refl w _) (by simpa using ho))
   simp[execOp,resolve,invoke,builtin,hx,hy,hrun]
  ·have hv2:=hs.eqn (by omega)
   have hcell:=hs.cell
   generalize AH v2=B at*
   generalize FG v2=O at*
   generalize jn v2=C at*
   subst hv2
   obtain⟨v',w',hr,h4,h5,_⟩:=run_append_own (P:=P) w N t ty e' i' z sz i'.bytes hun hi hzz h3 rfl hzs hsz v n xs ho ⟨B,O,none⟩ m C ys hs.len
    (λj u hu=>by rw[iu];exact hcell j u hu) h1 (by simpa [maxLen] using hm) hb hN
   refine .val (v:=v') (w':=w') ?_ (hK v' w' h5 h4)
   simp[execOp,resolve,invoke,builtin,hx,hy,hr]
end
theorem adt {w W:World} {sz n:Nat} {v:Value} {xs:List Value} (h:Below w.heap.size w W) (k:Sl w sz v n xs):Sl W sz v n xs:=
 ⟨k.form,k.len,λj u hu=>by have hc:=k.cell j u hu;rw[Below.cell h (World.block_lt_of_cell? w _ hc)];exact hc⟩
theorem On {w W:World} {b:Nat} {c:Array Value} {T:TypeId} (h:Below w.heap.size w W) (k:At w b c T):At W b c T:=by
 unfold At;rw[Below.block h b k.lt];exact k
theorem eK {w:World} {b sz:Nat} {c:Array Value} {T:TypeId} (k:At w b c T) (hs:c.size=sz):Sl w sz (.slice (some ⟨b,0,none⟩) 1 1) 1 c.toList:=
 ⟨⟨some ⟨b,0,none⟩,rfl,am _,λh=>(by cases h),λa' h _=>by cases h;rfl⟩,by simp[hs],λj u hu=>by
  show w.cell? ⟨b,0+j,none⟩=some u
  rw[abP]
  exact k.cell (by simpa using hu)⟩
theorem zo {α:Type} {enc:α→List Value} {sz:Nat} (he:∀a,(enc a).length=sz):∀(l:List α) (k r:Nat) (d:α),k<l.length→r<sz→(l.flatMap enc)[k*sz+r]? =(enc (l.getD k d))[r]?
 |[],k,r,d,h,_=>by simp at h
 |a::l,0,r,d,_,hr=>by
  rw[abv,ach,abP,abL (by rw[he];exact hr)]
  rfl
 |a::l,k+1,r,d,h,hr=>by
  have h1:sz≤(k+1)*sz+r:=by rw[abJ];omega
  rw[abv,abz (by rw[he];exact h1),he]
  have e:(k+1)*sz+r-sz=k*sz+r:=by rw[abJ];omega
  rw[e,zo he l k r d (by simpa using h) hr]
  simp
theorem mE {α:Type} {enc:α→List Value} {sz:Nat} (he:∀a,(enc a).length=sz) (l:List α):(l.flatMap enc).length=l.length*sz:=by
 induction l with
 |nil=>simp
 |cons a l ih=>rw[abv,An,ih,he,aa5,abJ];omega
def dp {α:Type} (enc:α→List Value) (sz:Nat) (w:World) (v:Value) (l:List α):Prop:=Sl w sz v l.length (l.flatMap enc)
def cH {α:Type} (enc:α→List Value) (sz:Nat) (T:TypeId) (w:World) (N:Nat) (v:Value) (l:List α):Prop:=w.ownsRow N T sz v l.length (l.flatMap enc)
section
variable {α:Type} {enc:α→List Value} {sz:Nat} {T:TypeId} {w w':World} {N:Nat} {v:Value} {l:List α}
theorem cH.sl (h:cH enc sz T w N v l):dp enc sz w v l:=adq h
theorem cH.nil:cH enc sz T w N (.slice none 0 0) []:=World.ownsRow_nil w N T sz
theorem dC.slT (h:dC w w') (k:dp enc sz w v l):dp enc sz w' v l:=dC.sl h k
instance {w w':World}:Kp w w' (dp enc sz w v l) (dp enc sz w' v l):=⟨dC.slT⟩
theorem dC.ow (h:dC w w') (k:cH enc sz T w N v l):cH enc sz T w' N v l:=dC.own h k
instance {w w':World} {N:Nat} {T:TypeId}:Kp w w' (cH enc sz T w N v l) (cH enc sz T w' N v l):=⟨dC.ow⟩
theorem Below.slT {W:World} (h:Below w.heap.size w W) (k:dp enc sz w v l):dp enc sz W v l:=adt h k
theorem cH.mono {N':Nat} (k:cH enc sz T w N v l) (h:N'≤N):cH enc sz T w N' v l:=by
 refine⟨k.1,?_⟩
 rcases k.2 with h2|⟨g,cap,cur,h3,hg,r⟩
 ·exact .inl h2
 ·exact .inr ⟨g,cap,cur,h3,go h hg,r⟩
theorem cH.lt (k:cH enc sz T w N v l):∀j,v.ownBlock=some j→N≤j:=λj hj=>(World.ownsRow.lt k j hj).1
theorem dp.cell (hs:dp enc sz w v l) (he:∀a,(enc a).length=sz) (d:α) {j:Int} (h0:0≤j) (h1:j<l.length) (r:Nat) {u:Value} (hu:(enc (l.getD j.toNat d))[r]? =some u):
  w.cell? ⟨AH v,FG v+j.toNat*sz+r,none⟩=some u:=by
 have hr:r<sz:=by
  have:=(abX.1 hu).1
  rwa [he]at this
 have h:=Sl.cell hs (j.toNat*sz+r) u (by rw[zo he l j.toNat r d (by omega) hr];exact hu)
 rwa [←Nat.add_assoc]at h
theorem cH.snoc {x:α} {n m:Nat} {xs ys:List Value} (hn:n=l.length) (hm:m=1) (hx:xs=l.flatMap enc) (hy:ys=enc x) (h:w.ownsRow N T sz v (n+m) (xs++ys)):cH enc sz T w N v (l++[x]):=by
 subst hn hm hx hy
 unfold cH
 rw[An,List.flatMap_append]
 simpa using h
theorem cH.app {l2:List α} {n m:Nat} {xs ys:List Value} (hn:n=l.length) (hm:m=l2.length) (hx:xs=l.flatMap enc) (hy:ys=l2.flatMap enc) (h:w.ownsRow N T sz v (n+m) (xs++ys)):cH enc sz T w N v (l++l2):=by
 subst hn hm hx hy
 unfold cH
 rw[An,List.flatMap_append]
 exact h
theorem cH.grownAt {b:Nat} {c:Array Value} {T':TypeId} (k:cH enc sz T w N v l) (hm:At w b c T') (hG:w.grownBy w' (some b)) (hT:T'≠T):cH enc sz T w' N v l:=
 World.ownsRow.kept k hG (.inr (λe=>pW k hm hT e.symm))
theorem At.grownOw {b:Nat} {c:Array Value} {T':TypeId} (hm:At w b c T') (k:cH enc sz T w N v l) (hG:w.grownBy w' v.ownBlock) (hT:T'≠T):At w' b c T':=
 hm.grown hG (pW k hm hT)
theorem cH.grownOw {β:Type} {enc':β→List Value} {sz':Nat} {T':TypeId} {N':Nat} {v':Value} {l':List β} (k':cH enc' sz' T' w N' v' l') (k:cH enc sz T w N v l) (hG:w.grownBy w' v.ownBlock) (hT:T'≠T):cH enc' sz' T' w' N' v' l':=
 World.ownsRow.kept k' hG (GC k k' hT)
theorem At.grownAt {b b':Nat} {c c':Array Value} {T':TypeId} (hm:At w b c T) (hm':At w b' c' T') (hG:w.grownBy w' (some b')) (hT:T≠T'):At w' b c T:=
 hm.grown hG (λe=>ac6 hm hm' hT (aaY e))
theorem At.grownNe {b b':Nat} {c:Array Value} (hm:At w b c T) (hne:b≠b') (hG:w.grownBy w' (some b')):At w' b c T:=
 hm.grown hG (λe=>hne (aaY e))
end
def nj (vs:List Value) (k:Nat):Nat→Value:=
 match vs with
 |[]=>λ_=>undef
 |v::r=>upd (nj r (k+1)) k v
def XX (P:Program) (f:Nat→Value) (w:World) (rs:Array ResultVar) (v:Value):Prop:=
 ∀(tmps:Array Value) (fn:Func),(∀t,tmps.getD t undef=f t)→fn.results=rs→(results fn tmps).run P w= .ok v w
def mw (P:Program) (rs:Array ResultVar) (Post:Value→World→Prop):Exit→(Nat→Value)→World→Prop
 | .ret,f,w| .normal,f,w=>∃v,XX P f w rs v∧Post v w
 |_,_,_=>False
theorem Gu (vs:List Value):∀(k t:Nat),k≤t→nj vs k t=vs.getD (t-k) undef:=by
 induction vs with
 |nil=>intro k t _;rfl
 |cons v r ih=>
  intro k t h
  by_cases e:t=k
  ·subst e;rw[nj,yS];simp
  ·rw[nj,Dh _ _ e,ih (k+1) t (by omega)]
   have e2:t-k=(t-(k+1))+1:=by omega
   rw[e2];simp
structure lc (P:Program) (g:Nat) (vs:Array Value) (w:World) (Post:Value→World→Prop):Prop where
 out:Calls P g vs w λe w'=>∃v,e= .returned v∧Post v w'
theorem sq {P:Program} {g:Nat} {fn:Func} {c:Code} {n:Nat} {vs:List Value} {w:World} {Post:Value→World→Prop} (hf:P.funcs[g]? =some fn) (hb:fn.body=some c) (hn:fn.ntmps=n) (hv:vs.length≤n)
  (h:WC P n c (mw P fn.results Post) (nj vs 0) w):lc P g vs.toArray w Post:=by
 refine⟨?_⟩
 refine calls_of_wp hf hb ?_
 subst hn
 have hr:D6 fn.ntmps (nj vs 0) {tmps:=vs.toArray++Array.replicate (fn.ntmps-vs.toArray.size) undef,defers:=[]}:=by
  refine⟨rfl,by simp;omega,λt=> ?_⟩
  rw[Gu vs 0 t (my _),acC]
  simp only[abM,Array.getElem?_append,List.size_toArray,List.getElem?_toArray,Array.getElem?_replicate,List.getD]
  split
  ·rfl
  ·rename_i hge
   rw[List.getElem?_eq_none (by omega)]
   split<;>rfl
 refine Code.wp_mono (λe a w' hq=> ?_) (h.out _ hr)
 obtain⟨f',hr',hq⟩:=hq
 cases e with
 |ret=>
  obtain⟨v,h1,h2⟩:=hq
  exact⟨hr'.defers,v,h1 _ fn hr'.get rfl,v,rfl,h2⟩
 |normal=>
  obtain⟨v,h1,h2⟩:=hq
  exact⟨hr'.defers,v,h1 _ fn hr'.get rfl,v,rfl,h2⟩
 |exit id=>exact hq.elim
 |goto l=>exact hq.elim
 |panic c=>exact hq.elim
 |outgrown=>exact hq.elim
theorem L8 {P:Program} {g:Nat} {fn:Func} {c:Code} {n:Nat} {vs:List Value} {w:World} {Post:Value→World→Prop} (hf:P.funcs[g]? =some fn) (hb:fn.body=some c) (hn:fn.ntmps=n) (hv:vs.length≤n)
  (h:WC P n c (mw P fn.results λv w'=>dC w w'∧Post v w') (nj vs 0) w):Fn P g vs.toArray w Post:=⟨(sq hf hb hn hv h).out⟩
theorem cM {P:Program} {g:Nat} {fn:Func} {c:Code} {n:Nat} {vs:List Value} {w:World} {Post:Value→World→Prop} (hf:P.funcs[g]? =some fn) (hb:fn.body=some c) (hn:fn.ntmps=n) (hv:Nat.ble vs.length n=true)
  (h:Below w.heap.size w w→WC P n c (mw P fn.results λv w'=>dC w w'∧Post v w') (nj vs 0) w):Fn P g vs.toArray w Post:=L8 hf hb hn (acR hv) (h (Below.refl _ _))
theorem dK {P:Program} {g:Nat} {fn:Func} {c:Code} {n:Nat} {vs:List Value} {w:World} {Post:Value→World→Prop} {N:Nat} (hf:P.funcs[g]? =some fn) (hb:fn.body=some c) (hn:fn.ntmps=n) (hv:Nat.ble vs.length n=true)
  (h:Below N w w→WC P n c (mw P fn.results Post) (nj vs 0) w):lc P g vs.toArray w Post:=sq hf hb hn (acR hv) (h (Below.refl _ _))
section
variable {P:Program} {f:Nat→Value} {w:World} {t u s r:Nat} {v v1 v2 v3:Value} {Post:Value→World→Prop} {T T' T2 T2':TypeId} {b:Nat} {c:Array Value}
theorem eq {rs:Array ResultVar} (h:mw P rs Post .ret f w):mw P rs Post .normal f w:=h
theorem oe (hp:Post (.tuple #[]) w):mw P #[] Post .ret f w:=by
 refine⟨_,λtmps fn ht hr=> ?_,hp⟩
 simp[results,hr]
theorem df (h:f t=v) (hp:Post v w):mw P #[.tmp t] Post .ret f w:=by
 refine⟨v,λtmps fn ht hr=> ?_,hp⟩
 rw[←h,←ht t];simp[results,hr]
theorem dG (h:f t=v) (h1:f u=v1) (hp:Post (.tuple #[v,v1]) w):mw P #[.tmp t, .tmp u] Post .ret f w:=by
 refine⟨_,λtmps fn ht hr=> ?_,hp⟩
 rw[←h,←h1,←ht t,←ht u];simp[results,hr]
theorem JC (h:f t=v) (h1:f u=v1) (h2:f s=v2) (hp:Post (.tuple #[v,v1,v2]) w):mw P #[.tmp t, .tmp u, .tmp s] Post .ret f w:=by
 refine⟨_,λtmps fn ht hr=> ?_,hp⟩
 rw[←h,←h1,←h2,←ht t,←ht u,←ht s];simp[results,hr]
theorem EL (h:f t=v) (h1:f u=v1) (h2:f s=v2) (h3:f r=v3) (hp:Post (.tuple #[v,v1,v2,v3]) w):mw P #[.tmp t, .tmp u, .tmp s, .tmp r] Post .ret f w:=by
 refine⟨_,λtmps fn ht hr=> ?_,hp⟩
 rw[←h,←h1,←h2,←h3,←ht t,←ht u,←ht s,←ht r];simp[results,hr]
theorem nc (hT:kf P T=some c.size) (hm:At w b c T'):(loadVar T ⟨b,0,none⟩).run P w= .ok (.agg c) w:=by
 have h1:=congrFun (mg hT).1 w
 have h2:=congrFun (mg hT).2 w
 have h3:=run_loadCells_list P w ⟨b,0,none⟩ c.toList 0 #[] (λj u hu=>by rw[iu];simp only[abP];exact hm.cell (by simpa using hu))
 rw[acr]at h3
 simp[loadVar,h1,h2,loadCells,h3]
theorem jw {k:Nat} (h:f t= .pointer (some ⟨b,0,none⟩)) (hT:kf P T=some k) (hm:At w b c T') (hk:k=c.size) (hp:Post (.agg c) w):mw P #[.cell t T] Post .ret f w:=by
 refine⟨_,λtmps fn ht hr=> ?_,hp⟩
 have e:=ht t
 rw[h]at e
 have hl:=nc (hk▸hT) hm
 simp only[abM]at e
 simp[results,hr,e,asAddr,hl]
theorem eh {k:Nat} (h:f t= .pointer (some ⟨b,0,none⟩)) (hT:kf P T=some k) (hm:At w b c T') (hk:k=c.size) (h1:f u=v1) (hp:Post (.tuple #[.agg c,v1]) w):mw P #[.cell t T, .tmp u] Post .ret f w:=by
 refine⟨_,λtmps fn ht hr=> ?_,hp⟩
 have e:=ht t
 have e1:=ht u
 rw[h]at e
 rw[h1]at e1
 have hl:=nc (hk▸hT) hm
 simp only[abM]at e e1
 simp[results,hr,e,e1,asAddr,hl]
theorem jK {k:Nat} (h:f t= .pointer (some ⟨b,0,none⟩)) (hT:kf P T=some k) (hm:At w b c T') (hk:k=c.size) (h1:f u=v1) (h2:f s=v2) (hp:Post (.tuple #[.agg c,v1,v2]) w):mw P #[.cell t T, .tmp u, .tmp s] Post .ret f w:=by
 refine⟨_,λtmps fn ht hr=> ?_,hp⟩
 have e:=ht t
 have e1:=ht u
 have e2:=ht s
 rw[h]at e
 rw[h1]at e1
 rw[h2]at e2
 have hl:=nc (hk▸hT) hm
 simp only[abM]at e e1 e2
 simp[results,hr,e,e1,e2,asAddr,hl]
end
end
section
open Go Go.RowKit
def wd (s i:Nat):Nat:=s/2^(64*i)%2^64
abbrev wv (s i:Nat):Value:= .int .u64 ((wd s i:Nat):Int)
abbrev ej (s:Nat):Value:= .agg #[wv s 0,wv s 1,wv s 2,wv s 3]
structure Cb where
 m:Nat
 v:Nat
 deriving DecidableEq,Repr
structure Rw where
 c:Cb
 o:Nat
 deriving DecidableEq,Repr
def aaG (b:Bool):List Value:=[.bool b]
def dT (z:Int):List Value:=[.int .i64 z]
def iD (c:Cb):List Value:=[.int .u8 (c.m:Int), .int .u8 (c.v:Int)]
def gx (r:Rw):List Value:=[.int .u8 (r.c.m:Int), .int .u8 (r.c.v:Int), .int .u8 (r.o:Int)]
def fh (s:Nat):List Value:=[wv s 0,wv s 1,wv s 2,wv s 3]
theorem wR (s i:Nat):wd s i<18446744073709551616:=Nat.mod_lt _ (by decide)
theorem NY (s i:Nat):wd s i<iA .u64:=wR s i
theorem jv (s i j:Nat):(wd s i).testBit j=(decide (j<64)&&s.testBit (64*i+j)):=by
 unfold wd
 rw[Nat.testBit_mod_two_pow,Nat.testBit_div_two_pow,Nat.add_comm]
theorem Rk {s t:Nat} (hs:s<2^256) (ht:t<2^256) (h0:wd s 0=wd t 0) (h1:wd s 1=wd t 1) (h2:wd s 2=wd t 2) (h3:wd s 3=wd t 3):s=t:=by
 refine aaz λp=> ?_
 by_cases hp:p<256
 ·have key:∀i,wd s i=wd t i→p/64=i→s.testBit p=t.testBit p:=λi h e=>by
   have h5:=congrArg (λx=>x.testBit (p%64)) h
   simp only[jv]at h5
   have e2:64*i+p%64=p:=by omega
   rw[e2]at h5
   simpa [Nat.mod_lt] using h5
  have:p/64=0∨p/64=1∨p/64=2∨p/64=3:=by omega
  rcases this with e|e|e|e
  ·exact key 0 h0 e
  ·exact key 1 h1 e
  ·exact key 2 h2 e
  ·exact key 3 h3 e
 ·have hle:2^256≤2^p:=aa8 (by decide) (by omega)
  rw[acb (abe hs hle),acb (abe ht hle)]
theorem kS {s i x:Nat} (hx:x<2^64) (h:∀j,j<64→x.testBit j=s.testBit (64*i+j)):wd s i=x:=by
 refine aaz λj=> ?_
 rw[jv]
 by_cases hj:j<64
 ·simp[hj,h j hj]
 ·have hle:2^64≤2^j:=aa8 (by decide) (by omega)
  simp[hj,acb (abe hx hle)]
theorem TU (s t i:Nat):wd (s ||| t) i=wd s i ||| wd t i:=
 kS (Nat.or_lt_two_pow (wR s i) (wR t i)) λj hj=>by simp[abI,jv,hj]
theorem Vq (s t i:Nat):wd (s &&& t) i=wd s i &&& wd t i:=
 kS (Nat.and_lt_two_pow _ (wR t i)) λj hj=>by simp[aa3,jv,hj]
theorem Lj (s t i:Nat):wd (andNot s t) i=andNot (wd s i) (wd t i):=
 kS (abr (sR _ _) (wR s i)) λj hj=>by simp[d4,jv,hj]
def od (p:Int):Bool:=decide (0≤p)&&decide (p<256)
def Cq (s:Nat) (p:Int):Bool:=od p&&s.testBit p.toNat
def m6 (s:Nat) (p:Int):Nat:=if od p then s ||| 2^p.toNat else s
theorem Vy (p i:Nat):wd (2^p) i=if p/64=i then 2^(p%64)else 0:=by
 split
 ·rename_i e
  refine kS (acn (by decide) (Nat.mod_lt _ (by decide))) λj hj=> ?_
  rw[abh,abh]
  congr 1
  refine propext ?_
  omega
 ·rename_i e
  refine kS (by decide) λj hj=> ?_
  rw[abx,abh]
  symm
  rw[decide_eq_false_iff_not]
  omega
theorem Rf (x j:Nat):x &&& 2^j=if x.testBit j then 2^j else 0:=by
 refine aaz λi=> ?_
 rw[aa3,abh]
 by_cases e:j=i
 ·subst e
  cases h:x.testBit j<;>simp
 ·cases h:x.testBit j<;>simp[e]
theorem ez (z:Int):(dT z).length=1:=rfl
theorem gt (c:Cb):(iD c).length=2:=rfl
theorem eA (r:Rw):(gx r).length=3:=rfl
theorem dr (s:Nat):(fh s).length=4:=rfl
theorem vy (s i:Nat) (h:i<4):(#[wv s 0,wv s 1,wv s 2,wv s 3]:Array Value)[0+((i:Nat):Int).toNat*1]? =some (wv s i):=by
 have:i=0∨i=1∨i=2∨i=3:=by omega
 rcases this with rfl|rfl|rfl|rfl<;>rfl
theorem OE {s s' i x:Nat} (h:i<4) (hs:∀j,j<4→wd s' j=if j=i then x else wd s j):
  (#[wv s 0,wv s 1,wv s 2,wv s 3]:Array Value).setIfInBounds (0+((i:Nat):Int).toNat*1) (.int .u64 (x:Int))= #[wv s' 0,wv s' 1,wv s' 2,wv s' 3]:=by
 have h0:=hs 0 (by decide)
 have h1:=hs 1 (by decide)
 have h2:=hs 2 (by decide)
 have h3:=hs 3 (by decide)
 unfold wv
 rw[h0,h1,h2,h3]
 have:i=0∨i=1∨i=2∨i=3:=by omega
 rcases this with rfl|rfl|rfl|rfl<;>rfl
theorem Ph {s q:Nat} (hq:q<256):∀j,j<4→wd (m6 s q) j=if j=q/64 then wd s (q/64) ||| 2^(q%64)else wd s j:=by
 intro j _
 have hm:od (q:Int)=true:=by simp[od];omega
 simp only[m6,hm,if_true,so,TU,Vy]
 by_cases e:j=q/64
 ·subst e;simp
 ·rw[if_neg (λh=>e h.symm),if_neg e];simp
theorem LH {s q:Nat} (hq:q<256):decide ((0:Int)<((wd s (q/64) &&& 2^(q%64):Nat):Int))=Cq s q:=by
 have hm:od (q:Int)=true:=by simp[od];omega
 rw[Rf,jv]
 have e:64*(q/64)+q%64=q:=by omega
 simp only[Cq,hm,abu,so,e,Nat.mod_lt q (show 64>0 by decide),decide_true]
 cases h:s.testBit q with
 |false=>simp
 |true=>
  have:=abo (q%64)
  simp
  exact_mod_cast this
def G0 (op:Nat→Nat→Nat) (s t k:Nat):Array Value:=
 #[.int .u64 ((if 0<k then op (wd s 0) (wd t 0)else 0:Nat):Int), .int .u64 ((if 1<k then op (wd s 1) (wd t 1)else 0:Nat):Int),
  .int .u64 ((if 2<k then op (wd s 2) (wd t 2)else 0:Nat):Int), .int .u64 ((if 3<k then op (wd s 3) (wd t 3)else 0:Nat):Int)]
theorem K9 (op:Nat→Nat→Nat) (s t k:Nat):(G0 op s t k).size=4:=rfl
theorem OP (op:Nat→Nat→Nat) (s t k:Nat) (h:k<4):(G0 op s t k).setIfInBounds (0+((k:Nat):Int).toNat*1) (.int .u64 ((op (wd s k) (wd t k):Nat):Int))=G0 op s t (k+1):=by
 have:k=0∨k=1∨k=2∨k=3:=by omega
 rcases this with rfl|rfl|rfl|rfl<;>rfl
theorem zk {op:Nat→Nat→Nat} {s t r:Nat} (h:∀j,wd r j=op (wd s j) (wd t j)):Value.agg (G0 op s t 4)=ej r:=by
 simp[G0,h]
theorem yN {s k:Nat} (h:k<256):Cq s (k:Int)=s.testBit k:=by
 have hm:od (k:Int)=true:=by simp[od];omega
 simp[Cq,hm]
def eb (s:Nat):List Int:=((List.range 256).filter λp:Nat=>s.testBit p).map λp:Nat=>(p:Int)
def ui (s k:Nat):List Int:=((List.range k).filter λp:Nat=>s.testBit p).map λp:Nat=>(p:Int)
theorem w9 (s k:Nat):ui s (k+1)=if s.testBit k then ui s k++[(k:Int)]else ui s k:=by
 unfold ui
 rw[List.range_succ,acz,ace]
 cases h:s.testBit k<;>simp[h]
theorem tY (s k:Nat):(ui s k).length≤k:=by
 unfold ui
 rw[aby]
 exact go (acB _ _) fD
theorem jD {s:Nat} {x:Int}:x∈eb s↔∃p:Nat,p<256∧s.testBit p=true∧x=p:=by
 simp only[eb,aa6,abQ,aba]
 constructor
 ·rintro⟨p,⟨h1,h2⟩,rfl⟩;exact⟨p,h1,h2,rfl⟩
 ·rintro⟨p,h1,h2,rfl⟩;exact⟨p,⟨h1,h2⟩,rfl⟩
theorem mq (s:Nat):(eb s).length≤256:=tY s 256
theorem dB {α:Type} {l:List α} {i:Nat} {d:α} (h:i<l.length):l.getD i d∈l:=by
 simp only[me,we h,Option.getD_some]
 exact List.getElem_mem h
theorem l9 {s i:Nat} (h:i<(eb s).length):∃p:Nat,p<256∧s.testBit p=true∧(eb s).getD i 0=p:=jD.1 (dB h)
def fm (n:Nat):Nat:=2^2^n-1
def ue (k:Nat):Nat:=2^k-1
theorem yy (k p:Nat):(ue k).testBit p=decide (p<k):=acP k p
theorem fk (n p:Nat):(fm n).testBit p=decide (p<2^n):=acP _ p
theorem Dk {k:Nat} (h:k<256):m6 (ue k) (k:Int)=ue (k+1):=by
 have hm:od (k:Int)=true:=by simp[od];omega
 refine aaz λp=> ?_
 simp only[m6,hm,if_true,so,abI,yy,abh]
 rw[abA]
 simp
 omega
def qG (s i:Nat) (one:Bool):Nat:=(eb s).foldl (λo p=>if decide (p.toNat/2^i%2=1)==one then m6 o p else o) 0
def ep (s t:Nat):Bool:=decide (wd (andNot s t) 0=0∧wd (andNot s t) 1=0∧wd (andNot s t) 2=0∧wd (andNot s t) 3=0)
theorem RG (i:Nat):wd 0 i=0:=by simp[wd]
theorem Im {s i:Nat}:wd s i=0↔∀j,j<64→s.testBit (64*i+j)=false:=by
 constructor
 ·intro h j hj
  have h2:=jv s i j
  rw[h,abx]at h2
  simpa [hj] using h2.symm
 ·intro h
  refine kS (by decide) λj hj=> ?_
  rw[h j hj,abx]
theorem dL {s t:Nat}:ep s t=true↔∀p,p<256→s.testBit p=true→t.testBit p=true:=by
 simp only[ep,decide_eq_true_eq,Im,d4]
 constructor
 ·rintro⟨h0,h1,h2,h3⟩ p hp hs
  have key:∀i,p/64=i→(∀j,j<64→(s.testBit (64*i+j)&& !t.testBit (64*i+j))=false)→t.testBit p=true:=λi e h=>by
   have h5:=h (p%64) (Nat.mod_lt _ (by decide))
   have e2:64*i+p%64=p:=by omega
   rw[e2,hs]at h5
   simpa using h5
  have:p/64=0∨p/64=1∨p/64=2∨p/64=3:=by omega
  rcases this with e|e|e|e
  ·exact key 0 e h0
  ·exact key 1 e h1
  ·exact key 2 e h2
  ·exact key 3 e h3
 ·intro h
  have key:∀i,i<4→∀j,j<64→(s.testBit (64*i+j)&& !t.testBit (64*i+j))=false:=λi hi j hj=>by
   have h5:=h (64*i+j) (by omega)
   cases hs:s.testBit (64*i+j)with
   |false=>rfl
   |true=>simp[h5 hs]
  exact⟨key 0 (by decide),key 1 (by decide),key 2 (by decide),key 3 (by decide)⟩
def oY (l:List Int) (i:Nat) (one:Bool) (k:Nat):Nat:=(l.take k).foldl (λo p=>if (decide (p.toNat/2^i%2=1)==one)=true then m6 o p else o) 0
theorem wW {l:List Int} {i k:Nat} {one:Bool} (h:k<l.length):
  oY l i one (k+1)=if (decide ((l.getD k 0).toNat/2^i%2=1)==one)=true then m6 (oY l i one k) (l.getD k 0)else oY l i one k:=by
 unfold oY
 rw[acv h,List.foldl_append]
 simp[me,we h]
theorem Pr (s i:Nat) (one:Bool):qG s i one=oY (eb s) i one (eb s).length:=by
 unfold qG oY
 rw[aa7]
theorem qh (x:Nat):x &&& 1=x%2:=Nat.and_one_is_mod x
theorem ES (q:Nat):decide (((q%2:Nat):Int)=1)=decide (q%2=1):=by
 rw[abA]
 simp only[decide_eq_true_eq]
 omega
def dP (m v:Nat) (n:Int):Bool:=decide (0≤n)&&(decide (n≤8)&&(decide (m<2^n.toNat)&&decide (andNot v m=0)))
def oK (m v k:Nat):Nat:=
 match k with
 |0=>0
 |k+1=>if k &&& m=v then m6 (oK m v k) (k:Int)else oK m v k
def qU (m v n:Nat):Nat:=oK m v (2^n)
def lA (m:Nat) (i:Int):Nat:=if 0≤i∧i<8 then andNot m (2^i.toNat)else m
theorem o4 {s k:Nat} (h:k<256) (p:Nat):(m6 s (k:Int)).testBit p=(decide (p=k)||s.testBit p):=by
 have hm:od (k:Int)=true:=by simp[od];omega
 have e:decide (k=p)=decide (p=k):=by rw[abA];simp;omega
 simp only[m6,hm,if_true,so,abI,abh,e]
 exact Bool.or_comm _ _
theorem AQ {m v:Nat}:∀(k:Nat),k≤256→∀p,(oK m v k).testBit p=(decide (p<k)&&decide (p &&& m=v)):=by
 intro k
 induction k with
 |zero=>intro _ p;simp[oK]
 |succ k ih=>
  intro hk p
  have ih':=ih (by omega) p
  simp only[oK]
  split
  ·rename_i h
   rw[o4 (by omega),ih']
   by_cases e:p=k
   ·subst e;simp[h]
   ·simp only[e,decide_false,Bool.false_or]
    congr 1
    rw[abA]
    simp
    omega
  ·rename_i h
   rw[ih']
   by_cases e:p=k
   ·subst e;simp[h]
   ·congr 1
    rw[abA]
    simp
    omega
theorem fw {n:Int} (h:n≤8):2^n.toNat≤256:=by
 have:2^n.toNat≤2^8:=aa8 (by decide) (by omega)
 simpa using this
theorem jr {m v n:Nat} (h:n≤8) (p:Nat):(qU m v n).testBit p=(decide (p<2^n)&&decide (p &&& m=v)):=
 AQ _ (by have:=fw (n:=(n:Int)) (by omega);simpa using this) p
end
section
open Go Go.RowKit Go.ChangeShapes Go.WideShapes Go.ChangeAt Go.Joins
section
variable {H:Type} {enc:TypeId×Value→H} {P:Program} {w:World} {base:Nat} {spare:Nat→Bool} {held:Bool} {r:Reach} {b0:Nat} {t e:TypeId} {v:Value} {d:DataW H} {ps:List MemPlace}
end
section
variable {H:Type} {enc:TypeId×Value→H} {P:Program} {W W':World}
theorem tF (hl:laidOutB P=true) (hE:dC W W') (sp:Nat→Bool):∀{ts:List TypeId} {vs:List Value} {ds:List (DataW H)} {ps:List MemPlace},(ts.all λt=>P.readableRec t&&decide (t<P.types.size))=true→
  DataW.TrodAll enc P W 0 (λ_=>true) true ts vs ds ps→(∀p∈ps,p.block<W.heap.size)→(∀p∈ps,sp p.block=true)→DataW.TrodAll enc P W' 0 sp true ts vs ds ps
 |[],[],[],_,_,h,_,_=>h
 |t::ts,vs,ds,ps,ht,h,hlt,hsp=>by
  obtain⟨v,vs',d,ds',p,q,rfl,rfl,rfl,h1,h2⟩:=trodAll_cons h
  simp only[ab1,th,decide_eq_true_eq]at ht
  refine trodAll_cons_mk (WideElems.Trod_stays hl ht.1.1 ht.1.2 h1 (λx hx=>Below.same hE (hlt x (by simp[hx]))) (λx hx=>hsp x (by simp[hx]))) ?_
  exact tF hl hE sp ht.2 h2 (λx hx=>hlt x (by simp[hx])) (λx hx=>hsp x (by simp[hx]))
 |[],[],_::_,_,_,h,_,_=>h.elim
 |[],_::_,_,_,_,h,_,_=>by cases h
theorem MZ {f:Func} {s:ChangeSpec} {apart fresh handsOn tE:Bool} {args:Array Value} {ds gs:List (DataW H)} {before:List MemPlace} {t:TypeId}
  (hl:laidOutB P=true) (hW:DataW.Whole enc P f.params.toList s.vars apart W args.toList ds gs before) (hvs:s.vars=[]) (hE:dC W W') (hts:(f.params.toList.all λt=>P.readableRec t&&decide (t<P.types.size))=true)
  (hrt:f.resultTypes= #[t]) (htb:P.underlying t=some .bool) (hr:(s.fn H (ds++gs)).results=[.lit (.bool true)]) (ha:(s.fn H (ds++gs)).args=ds) (hv:(s.fn H (ds++gs)).vars=[]):
  s.post enc P f apart fresh handsOn tE W args (.bool true) W':=by
 have hlt:=hW.lt
 have hW':=hW
 obtain⟨p,q,hA,hV,rfl,hz,hn⟩:=hW
 rw[hvs]at hV
 obtain⟨rfl,rfl⟩:=trodVars_none hV
 have hargs:∀sp:Nat→Bool,(∀x∈p++[],sp x.block=true)→DataW.TrodAll enc P W' 0 sp true f.params.toList args.toList (s.fn H (ds++[])).args p:=λsp hsp=>by
  rw[ha]
  exact tF hl hE sp hts hA (λx hx=>hlt x (by simp[hx])) (λx hx=>hsp x (by simp[hx]))
 have hres:∀(b:Nat) (sp:Nat→Bool) (hd:Bool),DataW.TrodAll enc P W' b sp hd f.resultTypes.toList ((Value.bool true).resultList f.resultTypes.size) (s.fn H (ds++[])).results []:=λb sp hd=>by
  rw[hr,hrt]
  exact trodAll_mk1 (shut_bool htb true)
 have hvars:∀sp:Nat→Bool,DataW.TrodVars enc P W' sp s.vars (s.fn H (ds++[])).vars []:=λsp=>by
  rw[hv,hvs];rfl
 have hold:∀x∈p++[],(λb=>decide (b<W.heap.size)) x.block=true:=λx hx=>by simpa using hlt x hx
 refine⟨ds,[],p++[],[],p,[],hW',hres _ _ _,hargs _ hold,hvars _,World.keptBut_mono (λx hx=>⟨hx,?_⟩) (Below.frame hE (·∈p++[])),λ_=> ?_⟩
 ·simpa using hx
 ·refine⟨ok_one hrt rfl (okWide_bool_mk htb true),_,_,([]++p)++[],⟨[]++p,[],trodAll_append (hargs _ (λ_ _=>rfl)) (hres _ _ _),hvars _,rfl,?_,?_⟩,?_⟩
  ·intro b off hp
   have hm:MemPlace.cell b off∈p++[]:=by simpa using hp
   rw[Below.frozen hE (p:=⟨b,off,none⟩) (hlt _ hm)]
   exact hz b off hm
  ·intro ha
   have:=hn ha
   simpa using this
  ·intro x hx _
   simpa using hx
end
end
section
open Go Go.RowKit Go.ChangeShapes Go.WideShapes Go.ChangeAt Go.Joins Go.Deep
section
variable {H:Type} {encH:TypeId×Value→H} {P:Program} {w:World} {base:Nat} {held:Bool} {r:Reach} {b0:Nat} {t e:TypeId}
end
end
end Go.Proofs.YtedeonkjellcpaaGreatDoor
