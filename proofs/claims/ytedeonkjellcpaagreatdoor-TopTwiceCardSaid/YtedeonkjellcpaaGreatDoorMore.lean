/- Words and walks of the row. No condition. -/
import Derived.WalkKit
import Derived.OrdersHeld
import Derived.Deep.LoopGhost
import Derived.KernelRfl
import Derived.ProofKit
import Derived.OpenShut
import Derived.Laws.IdiomArrays
import Derived.Lib.SmallJoins
import Derived.Deep.Slices
namespace Go.Proofs.YtedeonkjellcpaaGreatDoor
open Go Go.RowKit
set_option autoImplicit true
set_option relaxedAutoImplicit true
set_option linter.unusedVariables false
set_option linter.unusedSimpArgs false
section
abbrev am:= @Nat.le_refl
abbrev me:= @Nat.zero_le
abbrev go:= @Nat.le_trans
abbrev my:= @Int.toNat_natCast
abbrev an:= @Option.map_eq_some_iff
abbrev so:= @Bool.and_eq_true
abbrev aaR:= @Nat.le_of_eq
abbrev An:= @List.length_append
abbrev aaK:= @Option.some.inj
abbrev aaQ:= @List.mem_append
abbrev th:= @List.getElem?_eq_getElem
abbrev abJ:= @Nat.one_mul
abbrev we:= @Option.bind_eq_some_iff
abbrev aaG:= @List.mem_singleton
abbrev abS:= @List.mem_map
abbrev aaF:= @Nat.eq_of_testBit_eq
abbrev aaT:= @Bool.eq_false_iff
abbrev aaW:= @List.length_cons
abbrev aaX:= @List.length_take
abbrev Do:= @List.getD_eq_getElem?_getD
abbrev aaY:= @List.take_length
abbrev aaS:= @Decidable.of_not_not
abbrev abd:= @Nat.testBit_and
abbrev aa1:= @List.all_eq_true
abbrev aaV:= @Nat.pow_le_pow_right
abbrev aaZ:= @List.mem_cons_self
abbrev aaU:= @Nat.lt_succ_iff_lt_or_eq
abbrev ab0:= @Nat.lt_of_lt_of_le
abbrev abe:= @List.mem_cons_of_mem
abbrev ab9:= @List.mem_cons
abbrev ack:= @Bool.true_and
abbrev ab7:= @List.append_assoc
abbrev acb:= @Bool.eq_iff_iff
abbrev ab2:= @Int.eq_ofNat_of_zero_le
abbrev ace:= @Nat.two_pow_pos
abbrev ab5:= @Nat.testBit_two_pow
abbrev acj:= @List.length_map
abbrev ab8:= @Nat.lt_of_le_of_lt
abbrev act:= @Nat.add_mul
abbrev aci:= @List.length_drop
abbrev ab6:= @Nat.mul_le_mul_right
abbrev acg:= @List.take_add_one
abbrev ach:= @List.flatMap_cons
abbrev acp:= @List.mem_range
abbrev acy:= @Nat.lt_or_ge
abbrev acq:= @Nat.testBit_or
abbrev aco:= @List.nil_append
abbrev acx:= @Bool.and_true
abbrev acn:= @Nat.zero_testBit
abbrev acs:= @Bool.false_and
abbrev acA:= @Nat.zero_add
abbrev acf:= @List.length_singleton
abbrev acr:= @Bool.or_eq_true
abbrev acF:= @Nat.pow_succ
abbrev acQ:= @Nat.mul_one
abbrev acw:= @List.append_nil
abbrev ab4:= @List.eq_nil_of_length_eq_zero
abbrev acz:= @Nat.div_le_self
abbrev acl:= @List.length_pos_of_mem
abbrev acL:= @List.all_cons
abbrev acP:= @List.cons.inj
abbrev acB:= @List.cons_append
abbrev acG:= @List.length_nil
abbrev acV:= @Nat.zero_mul
abbrev acW:= @Nat.mul_comm
abbrev acC:= @List.any_eq_true
abbrev acM:= @Bool.and_false
abbrev ac7:= @Nat.add_zero
abbrev ac0:= @List.map_cons
abbrev adj:= @List.all_nil
abbrev acO:= @List.prefix_refl
abbrev acX:= @Nat.and_le_right
abbrev adf:= @Nat.mul_le_mul
abbrev ac4:= @List.mem_filter
abbrev acY:= @Nat.lt_succ_self
abbrev adq:= @Bool.or_false
abbrev acN:= @Nat.add_sub_cancel
abbrev acu:= @Nat.two_pow_add_eq_or_of_lt
abbrev adk:= @Nat.pow_dvd_pow
abbrev adl:= @List.range_succ
abbrev ada:= @Nat.mod_eq_of_lt
abbrev adm:= @Nat.min_eq_left
abbrev adn:= @List.foldl_cons
abbrev acZ:= @Bool.false_eq_true
abbrev acv:= @Array.getD_eq_getD_getElem?
abbrev acE:= @List.getElem?_append_right
abbrev adv:= @Nat.min_le_right
abbrev ac2:= @Bool.and_eq_true_iff
abbrev adp:= @List.length_range
abbrev ac3:= @Nat.pow_lt_pow_right
abbrev acI:= @List.getElem?_append_left
abbrev ac6:= @List.mem_map_of_mem
abbrev adg:= @List.pairwise_cons
abbrev acJ:= @List.pairwise_iff_getElem
abbrev acR:= @List.take_of_length_le
abbrev ads:= @List.length_pos_iff
abbrev acD:= @Nat.testBit_eq_decide_div_mod_eq
abbrev adw:= @List.filter_append
abbrev acS:= @List.getElem?_eq_some_iff
abbrev adt:= @Array.length_toList
abbrev ac8:= @Nat.testBit_lt_two_pow
abbrev adu:= @List.map_congr_left
abbrev adz:= @Nat.le_of_ble_eq_true
abbrev adA:= @List.length_filter_le
abbrev acT:= @Nat.and_two_pow_sub_one_eq_mod
abbrev ac9:= @Array.getElem?_eq_some_iff
abbrev ado:= @List.length_erase_of_mem
abbrev adh:= @Array.getElem?_setIfInBounds_ne
abbrev adr:= @List.take_append_of_le_length
abbrev adx:= @Nat.testBit_two_pow_sub_one
abbrev adb:= @List.take_succ_eq_append_getElem
theorem m3 {p:Prop} (h:Below N a b) (k:a.heap.size≤b.heap.size→p:=by intro h;omega):p:=k (Below.size h)
theorem D5 {p:Prop} (h:p:=by simp only[An,aaW,acG];omega):p:=h
theorem Hh {p:Prop} (h:p:=by simp only[List.map_toArray,ac0,List.map_nil,List.append_toArray,aco,acB];rfl):p:=h
theorem NV {p:Prop} (h:p:=by (simp only[B7,mp,Md,zt];omega)):p:=h
theorem Bi {p:Prop} (h:p:=by simp only[List.map_toArray,ac0,List.map_nil];rfl):p:=h
theorem fF {p:Prop} (h:p:=by simp):p:=h
theorem jW {p:Prop} (h:p:=by kernel_rfl):p:=h
theorem XX {p:Prop} (h:p:=by (simp only[sy,Ak,y6,RK];omega)):p:=h
theorem pr {p:Prop} (h:p:=by assumption):p:=h
theorem ix {p:Prop} (h:p:=by simp;omega):p:=h
theorem ux {p:Prop} (h:p:=by exact Wy _ _ (by simp only[Ka];omega)):p:=h
theorem yW {p:Prop} (h:p:=by simp only[ig,my,abJ];omega):p:=h
theorem pX {p:Prop} (h:p:=by simp only[ig];omega):p:=h
theorem vl {p:Prop} (h:p:=by (simp only[ig];omega)):p:=h
theorem xV {p:Prop} (h:p:=by rw[mu,aaX];omega):p:=h
theorem YL {p:Prop} (h:p:=by simp only[Ka];omega):p:=h
theorem Vv {p:Prop} (h:p:=by simp only[An,aaW,acG,l4];omega):p:=h
theorem xT {p:Prop} (h:p:=by exact adz rfl):p:=h
theorem IA {p:Prop} (h:p:=by rw[aaX];omega):p:=h
theorem pE {p:Prop} (h:p:=by rfl):p:=h
theorem AJ {p:Prop} (h:p:=by (simp;omega)):p:=h
theorem Sz {p:Prop} (h:p:=by (simp only[B7,mp];omega)):p:=h
theorem R7 {p:Prop} (h:p:=by (simp only[kq,qM];omega)):p:=h
theorem Rb {p:Prop} (h:p:=by simp only[abJ]at*;omega):p:=h
theorem YS {p:Prop} (h:p:=by show 256-(k+1)<256-k;omega):p:=h
theorem Lp {p:Prop} (h:p:=by exact Nat.zero_lt_one):p:=h
theorem Wp {p:Prop} (h:p:=by simp only[ig,my];omega):p:=h
theorem V8 {p:Prop} (h:p:=by rw[abJ];simp only[ig];omega):p:=h
theorem XA {p:Prop} (h:p:=by rw[e];exact aaZ):p:=h
theorem DG {p:Prop} (h:p:=by rw[e]):p:=h
structure EF (n:Nat) (f:Nat→Value) (a:Act):Prop where
 defers:a.defers=[]
 size:a.tmps.size=n
 get:∀t,a.tmps.getD t undef=f t
def upd (f:Nat→Value) (d:Nat) (v:Value):Nat→Value:=λt=>cond (Nat.beq t d) v (f t)
def updo (f:Nat→Value) (d:Option Nat) (v:Value):Nat→Value:=
 match d with
 |none=>f
 |some d=>upd f d v
def j7 (n:Nat) (d:Option Nat):Bool:=
 match d with
 |none=>true
 |some d=>decide (d<n)
def dm (f:Nat→Value) (x:Operand):Value:=
 match x with
 | .tmp t=>f t
 | .const v=>v
 | .global g=> .pointer (some ⟨g,0,none⟩)
 | .func k=> .func (.func k) #[] #[]
theorem zA (f:Nat→Value) (d:Nat) (v:Value):upd f d v d=v:=by simp[upd]
theorem D8 (f:Nat→Value) (v:Value) (h:t≠d):upd f d v t=f t:=by
 have e:Nat.beq t d=false:=by cases hb:Nat.beq t d with|false=>rfl|true=>exact absurd (Nat.eq_of_beq_eq_true hb) h
 simp only[upd,e,cond_false]
theorem EF.eval (h:EF n f a):a.eval=dm f:=by
 funext x
 cases x<;>simp only[Act.eval,dm,h.get]
theorem EF.put (h:EF n f a) (hd:j7 n d=true) (v:Value):EF n (updo f d v) (a.put d v):=by
 cases d with
 |none=>exact h
 |some d=>
  have hlt:d<n:=by simpa [j7] using hd
  refine⟨h.defers,by simp[Act.put,h.size],λt=> ?_⟩
  have hg:=h.get t
  simp only[Act.put,updo]
  by_cases e:t=d
  ·subst e
   rw[zA]
   simp[h.size,hlt]
  ·rw[D8 _ _ e,←hg]
   simp[adh (Ne.symm e)]
def HI (ops:Array Oper) (f:Nat→Value) (j:Nat):Option Bool:=
 match (ops[j]?).bind (·.dst)with
 |none=>none
 |some d=>match f d with
  | .bool b=>some b
  |_=>none
theorem EF.yielded (h:EF n f a) (ops:Array Oper) (j:Nat):yielded ops a.tmps j=HI ops f j:=by
 unfold Go.yielded HI
 cases hd:(ops[j]?).bind (·.dst)with
 |none=>simp
 |some d=>
  have hg:=h.get d
  simp only[Option.bind_some]
  cases ht:a.tmps[d]? with
  |none=>simp[ht]at hg;rw[←hg];rfl
  |some v=>
   simp[ht]at hg
   rw[←hg]
   cases v<;>rfl
def gi (ops:Array Oper) (f:Nat→Value) (o:Oper):Bool:=
 match o.guard with
 |none=>true
 |some (j,want)=>HI ops f j==some want
theorem EF.wanted (h:EF n f a) (ops:Array Oper) (o:Oper):Region.wanted o (Go.yielded ops a.tmps)=gi ops f o:=by
 unfold Region.wanted gi
 cases o.guard with
 |none=>rfl
 |some g=>simp only[h.yielded]
def dA (w w':World):Prop:=Below w.heap.size w w'
theorem dA.refl (w:World):dA w w:=Below.refl _ _
theorem dA.size (h:dA w w'):w.heap.size≤w'.heap.size:=Below.size h
theorem dA.trans (h:dA a b) (k:dA b c):dA a c:=Below.trans h (Below.mono k (Below.size h))
class Kp (w w':World) (p:Prop) (q:outParam Prop):Prop where
 k:dA w w'→p→q
theorem dA.k2 {w w':World} {p1 q1 p2 q2:Prop} [Kp w w' p1 q1] [Kp w w' p2 q2] (h:dA w w') (a1:p1) (a2:p2):q1∧q2:=⟨Kp.k h a1,Kp.k h a2⟩
theorem dA.k3 {w w':World} {p1 q1 p2 q2 p3 q3:Prop} [Kp w w' p1 q1] [Kp w w' p2 q2] [Kp w w' p3 q3] (h:dA w w') (a1:p1) (a2:p2) (a3:p3):q1∧q2∧q3:=⟨Kp.k h a1,Kp.k h a2,Kp.k h a3⟩
theorem dA.k4 {w w':World} {p1 q1 p2 q2 p3 q3 p4 q4:Prop} [Kp w w' p1 q1] [Kp w w' p2 q2] [Kp w w' p3 q3] [Kp w w' p4 q4] (h:dA w w') (a1:p1) (a2:p2) (a3:p3) (a4:p4):q1∧q2∧q3∧q4:=⟨Kp.k h a1,Kp.k h a2,Kp.k h a3,Kp.k h a4⟩
theorem dA.k5 {w w':World} {p1 q1 p2 q2 p3 q3 p4 q4 p5 q5:Prop} [Kp w w' p1 q1] [Kp w w' p2 q2] [Kp w w' p3 q3] [Kp w w' p4 q4] [Kp w w' p5 q5] (h:dA w w') (a1:p1) (a2:p2) (a3:p3) (a4:p4) (a5:p5):q1∧q2∧q3∧q4∧q5:=⟨Kp.k h a1,Kp.k h a2,Kp.k h a3,Kp.k h a4,Kp.k h a5⟩
theorem dA.k6 {w w':World} {p1 q1 p2 q2 p3 q3 p4 q4 p5 q5 p6 q6:Prop} [Kp w w' p1 q1] [Kp w w' p2 q2] [Kp w w' p3 q3] [Kp w w' p4 q4] [Kp w w' p5 q5] [Kp w w' p6 q6] (h:dA w w') (a1:p1) (a2:p2) (a3:p3) (a4:p4) (a5:p5) (a6:p6):q1∧q2∧q3∧q4∧q5∧q6:=⟨Kp.k h a1,Kp.k h a2,Kp.k h a3,Kp.k h a4,Kp.k h a5,Kp.k h a6⟩
theorem dA.k7 {w w':World} {p1 q1 p2 q2 p3 q3 p4 q4 p5 q5 p6 q6 p7 q7:Prop} [Kp w w' p1 q1] [Kp w w' p2 q2] [Kp w w' p3 q3] [Kp w w' p4 q4] [Kp w w' p5 q5] [Kp w w' p6 q6] [Kp w w' p7 q7] (h:dA w w') (a1:p1) (a2:p2) (a3:p3) (a4:p4) (a5:p5) (a6:p6) (a7:p7):q1∧q2∧q3∧q4∧q5∧q6∧q7:=⟨Kp.k h a1,Kp.k h a2,Kp.k h a3,Kp.k h a4,Kp.k h a5,Kp.k h a6,Kp.k h a7⟩
theorem dA.k8 {w w':World} {p1 q1 p2 q2 p3 q3 p4 q4 p5 q5 p6 q6 p7 q7 p8 q8:Prop} [Kp w w' p1 q1] [Kp w w' p2 q2] [Kp w w' p3 q3] [Kp w w' p4 q4] [Kp w w' p5 q5] [Kp w w' p6 q6] [Kp w w' p7 q7] [Kp w w' p8 q8] (h:dA w w') (a1:p1) (a2:p2) (a3:p3) (a4:p4) (a5:p5) (a6:p6) (a7:p7) (a8:p8):q1∧q2∧q3∧q4∧q5∧q6∧q7∧q8:=⟨Kp.k h a1,Kp.k h a2,Kp.k h a3,Kp.k h a4,Kp.k h a5,Kp.k h a6,Kp.k h a7,Kp.k h a8⟩
theorem dA.k9 {w w':World} {p1 q1 p2 q2 p3 q3 p4 q4 p5 q5 p6 q6 p7 q7 p8 q8 p9 q9:Prop} [Kp w w' p1 q1] [Kp w w' p2 q2] [Kp w w' p3 q3] [Kp w w' p4 q4] [Kp w w' p5 q5] [Kp w w' p6 q6] [Kp w w' p7 q7] [Kp w w' p8 q8] [Kp w w' p9 q9] (h:dA w w') (a1:p1) (a2:p2) (a3:p3) (a4:p4) (a5:p5) (a6:p6) (a7:p7) (a8:p8) (a9:p9):q1∧q2∧q3∧q4∧q5∧q6∧q7∧q8∧q9:=⟨Kp.k h a1,Kp.k h a2,Kp.k h a3,Kp.k h a4,Kp.k h a5,Kp.k h a6,Kp.k h a7,Kp.k h a8,Kp.k h a9⟩
theorem dA.k10 {w w':World} {p1 q1 p2 q2 p3 q3 p4 q4 p5 q5 p6 q6 p7 q7 p8 q8 p9 q9 p10 q10:Prop} [Kp w w' p1 q1] [Kp w w' p2 q2] [Kp w w' p3 q3] [Kp w w' p4 q4] [Kp w w' p5 q5] [Kp w w' p6 q6] [Kp w w' p7 q7] [Kp w w' p8 q8] [Kp w w' p9 q9] [Kp w w' p10 q10] (h:dA w w') (a1:p1) (a2:p2) (a3:p3) (a4:p4) (a5:p5) (a6:p6) (a7:p7) (a8:p8) (a9:p9) (a10:p10):q1∧q2∧q3∧q4∧q5∧q6∧q7∧q8∧q9∧q10:=⟨Kp.k h a1,Kp.k h a2,Kp.k h a3,Kp.k h a4,Kp.k h a5,Kp.k h a6,Kp.k h a7,Kp.k h a8,Kp.k h a9,Kp.k h a10⟩
theorem dA.k11 {w w':World} {p1 q1 p2 q2 p3 q3 p4 q4 p5 q5 p6 q6 p7 q7 p8 q8 p9 q9 p10 q10 p11 q11:Prop} [Kp w w' p1 q1] [Kp w w' p2 q2] [Kp w w' p3 q3] [Kp w w' p4 q4] [Kp w w' p5 q5] [Kp w w' p6 q6] [Kp w w' p7 q7] [Kp w w' p8 q8] [Kp w w' p9 q9] [Kp w w' p10 q10] [Kp w w' p11 q11] (h:dA w w') (a1:p1) (a2:p2) (a3:p3) (a4:p4) (a5:p5) (a6:p6) (a7:p7) (a8:p8) (a9:p9) (a10:p10) (a11:p11):q1∧q2∧q3∧q4∧q5∧q6∧q7∧q8∧q9∧q10∧q11:=⟨Kp.k h a1,Kp.k h a2,Kp.k h a3,Kp.k h a4,Kp.k h a5,Kp.k h a6,Kp.k h a7,Kp.k h a8,Kp.k h a9,Kp.k h a10,Kp.k h a11⟩
theorem dA.k12 {w w':World} {p1 q1 p2 q2 p3 q3 p4 q4 p5 q5 p6 q6 p7 q7 p8 q8 p9 q9 p10 q10 p11 q11 p12 q12:Prop} [Kp w w' p1 q1] [Kp w w' p2 q2] [Kp w w' p3 q3] [Kp w w' p4 q4] [Kp w w' p5 q5] [Kp w w' p6 q6] [Kp w w' p7 q7] [Kp w w' p8 q8] [Kp w w' p9 q9] [Kp w w' p10 q10] [Kp w w' p11 q11] [Kp w w' p12 q12] (h:dA w w') (a1:p1) (a2:p2) (a3:p3) (a4:p4) (a5:p5) (a6:p6) (a7:p7) (a8:p8) (a9:p9) (a10:p10) (a11:p11) (a12:p12):q1∧q2∧q3∧q4∧q5∧q6∧q7∧q8∧q9∧q10∧q11∧q12:=⟨Kp.k h a1,Kp.k h a2,Kp.k h a3,Kp.k h a4,Kp.k h a5,Kp.k h a6,Kp.k h a7,Kp.k h a8,Kp.k h a9,Kp.k h a10,Kp.k h a11,Kp.k h a12⟩
theorem dA.block {w w':World} (h:dA w w') {b:Nat} {o:Obj} (hb:w.heap[b]? =some o):w'.heap[b]? =some o:=by
 rw[Below.block h b (ac9.1 hb).1];exact hb
theorem gX {w:World} {b:Nat} {o:Obj} (hb:w.heap[b]? =some o):b<w.heap.size:=(ac9.1 hb).1
theorem ad1 (w:World) (k:Nat):dA w {w with drawn:=k}:=⟨rfl,rfl,rfl,am _,λ_ _=>rfl⟩
theorem dA.alloc (w:World) (o:Obj):dA w (w.alloc o):=(Below.refl w.heap.size w).alloc (am _) o
theorem cX (h:Below N a b) (k:dA b c) (hN:N≤a.heap.size):Below N a c:=Below.trans h (Below.mono k (go hN (Below.size h)))
structure Fn (P:Program) (g:Nat) (vs:Array Value) (w:World) (Post:Value→World→Prop):Prop where
 out:Calls P g vs w λe w'=>∃v,e= .returned v∧dA w w'∧Post v w'
theorem Fn.mono (h:Fn P g vs w Post) (hp:∀v w',dA w w'→Post v w'→Post' v w'):Fn P g vs w Post':=
 ⟨Calls.mono h.out λ_ _ ⟨v,he,hx,hq⟩=>⟨v,he,hx,hp _ _ hx hq⟩⟩
structure Yd (P:Program) (o:Oper) (f:Nat→Value) (w:World) (K:Value→World→Prop):Prop where
 out:∀a:Act,a.eval=dm f→∀Q,o.wp P a w (λa' w'=>∃v,a'=a.put o.dst v∧K v w') Q
theorem Yd.val
  (h:(execOp (dm f) o).run P w= .ok (.value v) w') (hK:K v w'):Yd P o f w K:=by
 refine⟨λa ha Q=> ?_⟩
 unfold Oper.wp
 rw[ha,h]
 exact⟨v,rfl,hK⟩
theorem Yd.skip
  (h:(execOp (dm f) o).run P w= .ok .skip w') (hK:K undef w'):Yd P o f w K:=by
 refine⟨λa ha Q=> ?_⟩
 unfold Oper.wp
 rw[ha,h]
 exact⟨undef,rfl,hK⟩
theorem Yd.call
  (h:(execOp (dm f) o).run P w= .ok (.enter g vs) w) (hc:Fn P g vs w Post) (hK:∀v w',dA w w'→Post v w'→K v w'):Yd P o f w K:=by
 refine⟨λa ha Q=> ?_⟩
 unfold Oper.wp
 rw[ha,h]
 refine Calls.mono hc.out λe w' ⟨v,he,hx,hq⟩=> ?_
 subst he
 exact⟨v,rfl,hK v w' hx hq⟩
theorem Yd.mono (h:Yd P o f w K) (hk:∀v w',K v w'→K' v w'):Yd P o f w K':=⟨λa ha Q=>Oper.wp_mono (λ_ _ ⟨v,e,k⟩=>⟨v,e,hk _ _ k⟩) (h.out a ha Q)⟩
section
variable (P:Program) (n:Nat) (ops:Array Oper) (Q:(Nat→Value)→World→Prop)
def OX (n:Nat) (Q:(Nat→Value)→World→Prop):Exit→Act→World→Prop:=
 λe a w=>e= .normal∧∃f,EF n f a∧Q f w
structure WL (l:List Oper) (f:Nat→Value) (w:World):Prop where
 out:∀a,EF n f a→wpList P ops (OX n Q) l a w
end
section
variable {P:Program} {n:Nat} {ops:Array Oper} {Q:(Nat→Value)→World→Prop} {f:Nat→Value} {w:World} {o:Oper} {rest:List Oper}
theorem ct (h:Q f w):WL P n ops Q [] f w:=⟨λ_ ha=>⟨rfl,f,ha,h⟩⟩
theorem gU (hg:gi ops f o=true) (he:o.dst=dd) (hd:j7 n dd=true) (h:Yd P o f w λv w'=>WL P n ops Q rest (updo f dd v) w'):WL P n ops Q (o::rest) f w:=by
 subst he
 refine⟨λa ha=> ?_⟩
 unfold wpList
 rw[ha.wanted,if_pos hg]
 refine .inl (Oper.wp_mono (λa' w' ⟨v,e,k⟩=> ?_) (h.out a ha.eval (OX n Q)))
 subst e
 exact k.out _ (ha.put hd v)
theorem S3 (hg:gi ops f o=false) (he:o.dst=dd) (hd:j7 n dd=true) (h:WL P n ops Q rest (updo f dd undef) w):WL P n ops Q (o::rest) f w:=by
 subst he
 refine⟨λa ha=> ?_⟩
 unfold wpList
 rw[ha.wanted,if_neg (by simp[hg])]
 exact h.out _ (ha.put hd undef)
theorem I2 (hg:gi ops f o=true) (he:o.dst=dd) (hd:j7 n dd=true) (hr:(execOp (dm f) o).run P w= .ok (.value v) w')
  (h:WL P n ops Q rest (updo f dd v) w'):WL P n ops Q (o::rest) f w:=gU hg he hd (.val hr h)
theorem oM (hg:gi ops f o=true) (he:o.dst=dd) (hd:j7 n dd=true) (hr:(execOp (dm f) o).run P w= .ok (.enter g vs) w)
  (hc:Fn P g vs w Post) (h:∀v w',dA w w'→Post v w'→WL P n ops Q rest (updo f dd v) w'):WL P n ops Q (o::rest) f w:=gU hg he hd (.call hr hc h)
theorem MZ (hg:gi ops f o=true) (he:o.dst=dd) (hd:j7 n dd=true) (hr:(execOp (dm f) o).run P w= .ok (.value (.bool b)) w)
  (ht:b=true→WL P n ops Q rest (updo f dd (.bool true)) w) (hf:b=false→WL P n ops Q rest (updo f dd (.bool false)) w):WL P n ops Q (o::rest) f w:=by
 cases b
 ·exact I2 hg he hd hr (hf rfl)
 ·exact I2 hg he hd hr (ht rfl)
end
def rS (ops:Array Oper) (j k:Nat):Bool:=
 match ops[j]? with
 |none=>false
 |some o=>o.after.any λe=>Region.binds .any e&&e.on==k
def Ec (ops:Array Oper):Nat→Nat→Nat→Bool
 |0,j,k=>rS ops j k
 |n+1,j,k=>rS ops j k||(List.range ops.size).any λm=>rS ops j m&&Ec ops n m k
def mH (ops:Array Oper) (listed:Array Bool) (j:Nat):Bool:=
 (List.range ops.size).all λk=> !listed.getD k false||Ec ops 4 j k
theorem zu:rS ops j k=true↔∃o,ops[j]? =some o∧∃e,e∈o.after∧Region.binds .any e=true∧e.on=k:=by
 unfold rS
 cases ops[j]? with
 |none=>simp
 |some o=>
  simp only[Option.some.injEq,exists_eq_left']
  rw[Array.any_eq_true']
  exact⟨λ⟨e,h1,h2⟩=>⟨e,h1,by simpa using h2⟩,λ⟨e,h1,h2⟩=>⟨e,h1,by simpa using h2⟩⟩
def ny (ops:Array Oper) (L:Array Bool):Prop:=∀m k,L.getD m false=true→rS ops m k=true→L.getD k false=true
theorem sI {L:Array Bool} {j k:Nat}:(L.setIfInBounds j true).getD k false=true↔(k=j∧j<L.size)∨L.getD k false=true:=by
 simp only[acv,Array.getElem?_setIfInBounds]
 by_cases h:j=k
 ·subst h
  by_cases h2:j<L.size
  ·simp[h2]
  ·simp[h2]
 ·have h3:¬k=j:=λe=>h e.symm
  simp[h,h3]
theorem ny.add {ops:Array Oper} {L:Array Bool} {j:Nat} (h:ny ops L) (hj:j∈Region.ready .any ops L):ny ops (L.setIfInBounds j true):=λm k hm hw=>by
 rw[sI]at hm ⊢
 right
 rcases hm with ⟨rfl,_⟩|hm
 ·obtain⟨_,oj,hoj,hall⟩:=mem_ready.1 hj
  obtain⟨o,ho,e,he,hb,rfl⟩:=zu.1 hw
  rw[hoj]at ho
  cases ho
  exact hall e he hb
 ·exact h m k hm hw
theorem ny.none:ny ops (Array.replicate n false):=λm k hm _=>by
 simp[acv,Array.getElem?_replicate]at hm
 split at hm<;>simp at hm
theorem t6 (hcl:ny ops L):∀(n j k:Nat),(∀m,rS ops j m=true→L.getD m false=true)→Ec ops n j k=true→L.getD k false=true
 |0,j,k,hw,h=>hw k h
 |n+1,j,k,hw,h=>by
  rw[Ec,acr,acC]at h
  rcases h with h|⟨m,_,h⟩
  ·exact hw k h
  ·rw[so]at h
   exact t6 hcl n m k (λq hq=>hcl m q (hw m h.1) hq) h.2
def YR (P:Program) (ops:Array Oper) (Q:Exit→Act→World→Prop) (S:World→Prop):Nat→Array Bool→Act→World→Prop
 |0,L,a,w=>Region.ready .any ops L=[]∧Q .normal a w
 |k+1,L,a,w=>(Region.ready .any ops L=[]→Q .normal a w)∧
  ∀i∈Region.ready .any ops L,wpOp P ops Q i (λa' w'=>(S w'∨mH ops L i=true)∧YR P ops Q S k (L.setIfInBounds i true) a' w') a w
section
variable {P:Program} {ops:Array Oper} {Q:Exit→Act→World→Prop} {S:World→Prop}
theorem zv:∀(k:Nat) (L:Array Bool) (a:Act) (w:World),YR P ops Q S k L a w→wpAny P .any ops Q k L a w
 |0,_,_,_,h=>h
 |k+1,_,_,_,h=>⟨h.1,λi hi=>wpOp_mono (λa' w' h'=>zv k _ a' w' h'.2) (h.2 i hi)⟩
theorem Cs {i:Nat} {oi:Oper} {v:Value} (hi:ops[i]? =some oi) (hsel:∀(j:Nat) (o:Oper) cs b,ops[j]? =some o→o.op≠ .select cs b)
  (hQ:∀c a w,Q (.panic c) (a.put oi.dst v) w→Q (.panic c) a w):
  ∀(k:Nat) (L:Array Bool) (a:Act) (w:World),L.size=ops.size→
   (∀j oj,ops[j]? =some oj→j≠i→L.getD j true=false→(∀e∈oj.after,Region.binds .any e=true→e.on≠i)→oi.apart ops oj=true)→
   i∈Region.ready .any ops L→ny ops L→YieldsIf P ops S oi v a→S w→
   YR P ops Q S k (L.setIfInBounds i true) (a.put oi.dst v) w→YR P ops Q S (k+1) L a w:=by
 intro k
 induction k with
 |zero=>
  intro L a w hsz hfree hr hcl hy hS H
  refine⟨λh=>(by rw[h]at hr;cases hr),λj hj=> ?_⟩
  by_cases hji:j=i
  ·subst hji
   exact hy.wpOp hi hS ⟨.inl hS,H⟩
  ·have:=ready_mono hj hji
   rw[H.1]at this
   cases this
 |succ k ih=>
  intro L a w hsz hfree hr hcl hy hS H
  refine⟨λh=>(by rw[h]at hr;cases hr),λj hj=> ?_⟩
  by_cases hji:j=i
  ·subst hji
   exact hy.wpOp hi hS ⟨.inl hS,H⟩
  ·have h1:=H.2 j (ready_mono hj hji)
   obtain⟨hjun,oj,hoj,hall⟩:=mem_ready.1 hj
   have hiL:L.getD i true=false:=(mem_ready.1 hr).1
   have hilt:i<ops.size:=(ac9.1 hi).1
   have hnot:∀e∈oj.after,Region.binds .any e=true→e.on≠i:=λe he hb heq=>by
    have h2:=hall e he hb
    rw[heq]at h2
    have hlt:i<L.size:=by omega
    simp[hlt]at hiL h2
    rw[hiL]at h2
    cases h2
   have hnf:mH ops (L.setIfInBounds i true) j=false:=by
    cases hfb:mH ops (L.setIfInBounds i true) j with
    |false=>rfl
    |true=>
     simp only[mH,aa1,acp]at hfb
     have h3:=hfb i hilt
     have hlt:i<L.size:=by omega
     have hin:(L.setIfInBounds i true).getD i false=true:=sI.2 (.inl ⟨rfl,hlt⟩)
     rw[hin,Bool.not_true,Bool.false_or]at h3
     have hw:∀k,rS ops j k=true→L.getD k false=true:=λk hw=>by
      obtain⟨o,ho,e,he,hb,rfl⟩:=zu.1 hw
      rw[hoj]at ho
      cases ho
      exact hall e he hb
     have hno:L.getD i false=false:=by
      simp only[acv,Array.getElem?_eq_getElem hlt,Option.getD_some]at hiL ⊢
      exact hiL
     rw[t6 hcl 4 j i hw h3]at hno;cases hno
   have h2:=wpOp_putIf hoj (hfree j oj hoj hji hjun hnot) (λcs b=>hsel i oi cs b hi) (λcs b=>hsel j oj cs b hoj) hQ hy h1
   have hfree':∀m om,ops[m]? =some om→m≠i→(L.setIfInBounds j true).getD m true=false→
     (∀e∈om.after,Region.binds .any e=true→e.on≠i)→oi.apart ops om=true:=λm om hom hmi hun hno=>by
    refine hfree m om hom hmi ?_ hno
    by_cases hjm:j=m
    ·subst hjm;exact hjun
    ·rw[getD_set_ne true hjm]at hun;exact hun
   refine wpOp_mono (λa' w' h3=> ?_) h2
   have hS':S w':=h3.2.1.resolve_right (by simp[hnf])
   refine⟨.inl hS',ih (L.setIfInBounds j true) a' w' (by simpa using hsz) hfree' (ready_mono hr (Ne.symm hji)) (hcl.add hj) h3.1 hS' ?_⟩
   rw[Array.setIfInBounds_comm _ _ hji]
   exact h3.2.2
end
section
variable (P:Program) (n:Nat) (ops:Array Oper) (Q:(Nat→Value)→World→Prop) (S:World→Prop)
structure WT (k:Nat) (L:Array Bool) (f:Nat→Value) (w:World):Prop where
 out:L.size=ops.size→ny ops L→∀a,EF n f a→YR P ops (OX n Q) S k L a w
end
section
variable {P:Program} {n:Nat} {ops:Array Oper} {Q:(Nat→Value)→World→Prop} {S:World→Prop} {f:Nat→Value} {w:World} {k:Nat} {L:Array Bool}
theorem TF (hr:Region.ready .any ops L=[]) (h:Q f w):WT P n ops Q S k L f w:=by
 refine⟨λ_ _ a ha=> ?_⟩
 cases k with
 |zero=>exact⟨hr,rfl,f,ha,h⟩
 |succ k=>exact⟨λ_=>⟨rfl,f,ha,h⟩,by rw[hr];simp⟩
theorem Du (i:Nat) (hi:ops[i]? =some oi) (hs:Region.noSelect ops=true) (hf:Region.free .any ops L i=true)
  (hr:(Region.ready .any ops L).contains i=true) (hg:gi ops f oi=true) (he0:oi.dst=dd) (hd:j7 n dd=true)
  (hv:∀w',S w'→(execOp (dm f) oi).run P w'= .ok (.value v) w') (hS:S w)
  (h:WT P n ops Q S k (L.setIfInBounds i true) (updo f dd v) w):WT P n ops Q S (k+1) L f w:=by
 subst he0
 refine⟨λhsz hcl a ha=> ?_⟩
 refine Cs (v:=v) hi (Region.noSelect_spec hs) (λc a w h=>nomatch h.1) k L a w hsz (Region.free_spec hi hf) (by simpa using hr) hcl ?_ hS ?_
 ·exact .inl ⟨by rw[ha.wanted];exact hg,λw' hw'=>by rw[ha.eval];exact hv w' hw'⟩
 ·exact h.out (by simpa using hsz) (hcl.add (by simpa using hr)) _ (ha.put hd v)
theorem NL (i:Nat) (hi:ops[i]? =some oi) (hs:Region.noSelect ops=true) (hf:Region.free .any ops L i=true)
  (hr:(Region.ready .any ops L).contains i=true) (hg:gi ops f oi=true) (he0:oi.dst=dd) (hd:j7 n dd=true)
  (hv:∀w',S w'→(execOp (dm f) oi).run P w'= .ok (.value (.bool b)) w') (hS:S w)
  (ht:b=true→WT P n ops Q S k (L.setIfInBounds i true) (updo f dd (.bool true)) w)
  (he:b=false→WT P n ops Q S k (L.setIfInBounds i true) (updo f dd (.bool false)) w):WT P n ops Q S (k+1) L f w:=by
 cases b
 ·exact Du i hi hs hf hr hg he0 hd hv hS (he rfl)
 ·exact Du i hi hs hf hr hg he0 hd hv hS (ht rfl)
theorem QV (i:Nat) (hi:ops[i]? =some oi) (hs:Region.noSelect ops=true) (hf:Region.free .any ops L i=true)
  (hr:(Region.ready .any ops L).contains i=true) (hg:gi ops f oi=false) (he0:oi.dst=dd) (hd:j7 n dd=true) (hS:S w)
  (h:WT P n ops Q S k (L.setIfInBounds i true) (updo f dd undef) w):WT P n ops Q S (k+1) L f w:=by
 subst he0
 refine⟨λhsz hcl a ha=> ?_⟩
 refine Cs (v:=undef) hi (Region.noSelect_spec hs) (λc a w h=>nomatch h.1) k L a w hsz (Region.free_spec hi hf) (by simpa using hr) hcl ?_ hS ?_
 ·exact .inr ⟨by rw[ha.wanted];exact hg,rfl⟩
 ·exact h.out (by simpa using hsz) (hcl.add (by simpa using hr)) _ (ha.put hd undef)
theorem FO {i:Nat} {oi:Oper} {dd:Option Nat} (hi:ops[i]? =some oi) (hg:gi ops f oi=true) (he0:oi.dst=dd) (hd:j7 n dd=true) {K:(Nat→Value)→World→Prop} {a:Act} (ha:EF n f a)
  {J:Act→World→Prop} (hJ:∀f' a' w',EF n f' a'→K f' w'→J a' w') (h:Yd P oi f w λv w'=>K (updo f dd v) w'):wpOp P ops (OX n Q) i J a w:=by
 subst he0
 unfold wpOp
 simp only[hi]
 rw[ha.wanted,if_pos hg]
 refine .inl (Oper.wp_mono (λa' w' ⟨v,e,hk⟩=> ?_) (h.out a ha.eval (OX n Q)))
 subst e
 exact hJ _ _ _ (ha.put hd v) hk
theorem iZ (i:Nat) (hr:Region.ready .any ops L=[i]) (hi:ops[i]? =some oi) (hg:gi ops f oi=true) (he0:oi.dst=dd) (hd:j7 n dd=true)
  (h:Yd P oi f w λv w'=>(S w'∨mH ops L i=true)∧WT P n ops Q S k (L.setIfInBounds i true) (updo f dd v) w'):WT P n ops Q S (k+1) L f w:=by
 refine⟨λhsz hcl a ha=> ?_⟩
 refine⟨λh0=>(by rw[hr]at h0;cases h0),λj hj=> ?_⟩
 have hj':=hj
 rw[hr,aaG]at hj
 subst hj
 exact FO (K:=λf' w'=>(S w'∨mH ops L j=true)∧WT P n ops Q S k (L.setIfInBounds j true) f' w') hi hg he0 hd ha
  (λf' a' w' hr' hk=>⟨hk.1,hk.2.out (by simpa using hsz) (hcl.add hj') a' hr'⟩) h
theorem wx (i j:Nat) (hr:Region.ready .any ops L=[i,j]) (hi:ops[i]? =some oi) (hj:ops[j]? =some oj)
  (hgi:gi ops f oi=true) (hei:oi.dst=di) (hdi:j7 n di=true) (hgj:gi ops f oj=true) (hej:oj.dst=dj) (hdj:j7 n dj=true)
  (h1:Yd P oi f w λv w'=>(S w'∨mH ops L i=true)∧WT P n ops Q S k (L.setIfInBounds i true) (updo f di v) w')
  (h2:Yd P oj f w λv w'=>(S w'∨mH ops L j=true)∧WT P n ops Q S k (L.setIfInBounds j true) (updo f dj v) w'):WT P n ops Q S (k+1) L f w:=by
 refine⟨λhsz hcl a ha=> ?_⟩
 refine⟨λh0=>(by rw[hr]at h0;cases h0),λm hm=> ?_⟩
 have hm':=hm
 rw[hr]at hm
 rcases ab9.1 hm with rfl|hm
 ·exact FO (K:=λf' w'=>(S w'∨mH ops L m=true)∧WT P n ops Q S k (L.setIfInBounds m true) f' w') hi hgi hei hdi ha
   (λf' a' w' hr' hk=>⟨hk.1,hk.2.out (by simpa using hsz) (hcl.add hm') a' hr'⟩) h1
 ·rw[aaG]at hm
  subst hm
  exact FO (K:=λf' w'=>(S w'∨mH ops L m=true)∧WT P n ops Q S k (L.setIfInBounds m true) f' w') hj hgj hej hdj ha
   (λf' a' w' hr' hk=>⟨hk.1,hk.2.out (by simpa using hsz) (hcl.add hm') a' hr'⟩) h2
end
section
variable (P:Program) (n:Nat)
def Y8 (n:Nat) (Q:Exit→(Nat→Value)→World→Prop):Exit→Act→World→Prop:=λe a w=>∃f,EF n f a∧Q e f w
structure WC (c:Code) (Q:Exit→(Nat→Value)→World→Prop) (f:Nat→Value) (w:World):Prop where
 out:∀a,EF n f a→c.wp P (Y8 n Q) a w
def zS (K:(Nat→Value)→World→Prop) (Q:Exit→(Nat→Value)→World→Prop):Exit→(Nat→Value)→World→Prop
 | .normal=>K
 |e=>Q e
def uB (id:Nat) (Q:Exit→(Nat→Value)→World→Prop):Exit→(Nat→Value)→World→Prop
 | .exit id'=>if id'=id then Q .normal else Q (.exit id')
 |e=>Q e
end
section
variable {P:Program} {n:Nat} {Q:Exit→(Nat→Value)→World→Prop} {f:Nat→Value} {w:World}
theorem Xk (h:∀K:(Nat→Value)→World→Prop,(∀f w,WC P n y Q f w→K f w)→WC P n x (zS K Q) f w):WC P n (.seq x y) Q f w:=by
 refine⟨λa ha=> ?_⟩
 refine wp_seq (Code.wp_mono (λe a' w' hq=> ?_) ((h (WC P n y Q) (λ_ _ h=>h)).out a ha))
 obtain⟨f',hr,hq⟩:=hq
 cases e with
 |normal=>exact hq.out a' hr
 |_=>exact⟨f',hr,hq⟩
theorem dZ (h:Q .ret f w):zS K Q .ret f w:=h
theorem dI {id:Nat} (h:Q .ret f w):uB id Q .ret f w:=h
theorem cx (h:Q .normal f w):WC P n .skip Q f w:=⟨λ_ ha=>wp_skip ⟨f,ha,h⟩⟩
theorem lV (h:Q .ret f w):WC P n .ret Q f w:=⟨λ_ ha=>wp_ret ⟨f,ha,h⟩⟩
theorem cT {id:Nat} (h:Q (.exit id) f w):WC P n (.exit id) Q f w:=⟨λ_ ha=>wp_exit ⟨f,ha,h⟩⟩
theorem ED (hc:dm f c= .bool b) (ht:b=true→WC P n x Q f w) (hf:b=false→WC P n y Q f w):WC P n (.cond c x y) Q f w:=by
 refine⟨λa ha=> ?_⟩
 refine wp_cond_split (t:=b) (by rw[ha.eval];exact hc) (λh=>(ht h).out a ha) (λh=>(hf h).out a ha)
theorem cN (hc:dm f c= .bool true) (ht:WC P n x Q f w):WC P n (.cond c x y) Q f w:=ED hc (λ_=>ht) (λh=>by cases h)
theorem dE (hc:dm f c= .bool false) (hf:WC P n y Q f w):WC P n (.cond c x y) Q f w:=ED hc (λh=>by cases h) (λ_=>hf)
theorem cy {id:Nat} (h:WC P n c (uB id Q) f w):WC P n (.block id c) Q f w:=by
 refine⟨λa ha=> ?_⟩
 refine wp_block (Code.wp_mono (λe a' w' hq=> ?_) (h.out a ha))
 obtain⟨f',hr,hq⟩:=hq
 cases e with
 |exit id'=>
  by_cases hid:id'=id
  ·simp only[uB,hid,if_true]at hq
   simp only[Exit.inBlock,hid,if_true]
   exact⟨f',hr,hq⟩
  ·simp only[uB,hid,if_false]at hq
   simp only[Exit.inBlock,hid,if_false]
   exact⟨f',hr,hq⟩
 |normal=>exact⟨f',hr,hq⟩
 |ret=>exact⟨f',hr,hq⟩
 |goto l=>exact⟨f',hr,hq⟩
 |panic c=>exact⟨f',hr,hq⟩
 |outgrown=>exact⟨f',hr,hq⟩
theorem cI {id:Nat} (h:WL P n l.toArray (Q .normal) l f w):WC P n (.region id l.toArray false) Q f w:=by
 refine⟨λa ha=> ?_⟩
 refine Code.wp_mono (λe a' w' hq=> ?_) (wp_region_lit (h.out a ha))
 obtain⟨rfl,f',hr,hq⟩:=hq
 exact⟨f',hr,hq⟩
theorem eR (S:World→World→Prop) {id:Nat} (hm:P.follows .mixedOrders=true)
  (h:∀w1,dA w w1→WT P n ops (Q .normal) (S w1) ops.size (Array.replicate ops.size false) f w1):WC P n (.region id ops true) Q f w:=by
 refine⟨λa ha=> ?_⟩
 refine Code.wp_mono (λe a' w' hq=> ?_) (wp_region_any hm (zv _ _ _ _ ((h _ (ad1 w _)).out fF ny.none a ha)))
 obtain⟨rfl,f',hr,hq⟩:=hq
 exact⟨f',hr,hq⟩
def updL (l:List (Nat×Value)) (f:Nat→Value):Nat→Value:=
 match l with
 |[]=>f
 |(d,v)::r=>upd (updL r f) d v
def pd (S:List Nat) (t:Nat):Bool:=
 match S with
 |a::b::r=>cond (cond (Nat.ble a t) (Nat.ble t b) false) true (pd r t)
 |_=>false
def mask (S:List Nat) (f g:Nat→Value):Nat→Value:=λt=>cond (pd S t) (g t) (f t)
def dC (S:List Nat) (f g:Nat→Value):Prop:=∀t,pd S t=false→f t=g t
theorem dC.refl (S:List Nat) (f:Nat→Value):dC S f f:=λ_ _=>rfl
theorem dC.upd (h:dC S f g) (hd:pd S d=true) (v:Value):dC S (upd f d v) g:=by
 intro t ht
 rw[D8 _ _ (λe=>by rw[e,hd]at ht;cases ht)]
 exact h t ht
theorem adc (h:dC S f g) (hd:(match d with|none=>true|some d=>pd S d)=true) (v:Value):dC S (updo f d v) g:=by
 cases d with
 |none=>exact h
 |some d=>exact h.upd hd v
theorem dC.mask (S:List Nat) (f g:Nat→Value):dC S (mask S f g) f:=by
 intro t ht
 simp only[Go.Proofs.YtedeonkjellcpaaGreatDoor.mask,ht,cond_false]
theorem ac5 (h:dC S f g):∀(l:List (Nat×Value)),(l.all λp=>pd S p.1)=true→dC S (updL l f) g
 |[],_=>h
 |(d,v)::r,hl=>by
  simp only[acL,so]at hl
  exact(ac5 h r hl.2).upd hl.1 v
def rt (f:Nat→Value):List (Nat×Value)→Prop
 |[]=>True
 |(d,v)::r=>f d=v∧rt f r
theorem yE (h:dC S f f0):∀(l:List (Nat×Value)),rt f l→f=updL l (mask S f0 f)
 |[],_=>by
  funext t
  cases ht:pd S t with
  |true=>simp only[updL,mask,ht,cond_true]
  |false=>simp only[updL,mask,ht,cond_false];exact h t ht
 |(d,v)::r,hl=>by
  funext t
  have ih:=congrFun (yE h r hl.2) t
  by_cases e:t=d
  ·subst e
   rw[updL,zA];exact hl.1
  ·rw[updL,D8 _ _ e];exact ih
theorem cW {σ:Type} (S:List Nat) (L:σ→List (Nat×Value)) (I:σ→World→Prop) (μ:σ→Nat) (s0:σ) {c:Code}
  (hs:rt f (L s0)) (hi:I s0 w)
  (hb:∀s g w1,I s w1→∀J:(Nat→Value)→World→Prop,(∀f2 w2 s2,dC S f2 f→rt f2 (L s2)→I s2 w2→μ s2<μ s→J f2 w2)→
   WC P n c (zS J Q) (updL (L s) (mask S f g)) w1):WC P n (.loop c) Q f w:=by
 refine⟨λa ha=> ?_⟩
 refine wp_loop_ghost (λm a' w'=>∃s f1,μ s=m∧EF n f1 a'∧dC S f1 f∧rt f1 (L s)∧I s w') (μ s0) ⟨s0,f,rfl,ha,dC.refl _ _,hs,hi⟩ ?_
 rintro m a1 w1 ⟨s,f1,rfl,hr,hag,hl,hI⟩
 have hb':=hb s f1 w1 hI (λf2 w2=>dC S f2 f∧∃s2,rt f2 (L s2)∧I s2 w2∧μ s2<μ s) (λf2 w2 s2 h1 h2 h3 h4=>⟨h1,s2,h2,h3,h4⟩)
 rw[←yE hag (L s) hl]at hb'
 refine Code.wp_mono (λe a2 w2 hq=> ?_) (hb'.out a1 hr)
 obtain⟨f2,hr2,hq⟩:=hq
 cases e with
 |normal=>
  obtain⟨hag2,s2,hl2,hI2,hlt⟩:=hq
  exact⟨μ s2,hlt,s2,f2,rfl,hr2,hag2,hl2,hI2⟩
 |exit id=>exact⟨f2,hr2,hq⟩
 |goto l=>exact⟨f2,hr2,hq⟩
 |ret=>exact⟨f2,hr2,hq⟩
 |panic c=>exact⟨f2,hr2,hq⟩
 |outgrown=>exact⟨f2,hr2,hq⟩
end
end
section
def eN (P:Program) (t:TypeId):Bool:=
 match P.underlying t with
 |some (.struct _)|some (.array _ _)|none=>false
 |_=>(P.info? t).any λi=>i.size==1
def kn (P:Program) (t:TypeId):Option Nat:=
 match P.underlying t with
 |some (.struct _)|some (.array _ _)=>(P.info? t).map (·.size)
 |_=>none
def eb (P:Program) (t:TypeId) (k:Nat):Option Nat:=
 match P.underlying t with
 |some (.struct fs)=>(fs[k]?).bind λfd=>if (P.info? fd.type).any (λi=>i.size != 0)then some fd.offset else none
 |_=>none
def fj (P:Program) (t:TypeId):Option (TypeId×Nat×Nat):=
 match P.underlying t with
 |some (.slice e)=>(P.info? e).map λi=>(e,i.size,i.bytes)
 |_=>none
def La (P:Program) (t:TypeId):Option (Nat×Nat):=
 match P.underlying t with
 |some (.array n e)=>(P.info? e).map λi=>(n,i.size)
 |_=>none
def d4 (P:Program) (t:TypeId):Option Value:=(P.info? t).bind (·.zero)
def na (P:Program) (t:TypeId):Option (TypeId×TypeId):=
 match P.underlying t with
 |some (.map k e)=>some (k,e)
 |_=>none
def cY (P:Program) (g:Nat):Bool:=
 match P.funcs[g]? with
 |some fn=> !(fn.name== "runtime.NumGoroutine")&&fn.body.isSome
 |none=>false
theorem mB (h:kn P t=some k):(isAgg t).run P=Sem.run P (pure true)∧(sizeOf t).run P=Sem.run P (pure k):=by
 unfold kn at h
 cases hu:P.underlying t with
 |none=>simp[hu]at h
 |some d=>
  cases hi:P.info? t with
  |none=>cases d<;>simp[hu,hi]at h
  |some i=>
   cases d<;>simp[hu,hi]at h
   all_goals
    subst h
    exact⟨by funext w;simp[isAgg,run_underlying hu],by funext w;simp[sizeOf,typeInfo,hi]⟩
theorem nx (h:eN P t=true):(isAgg t).run P=Sem.run P (pure false)∧(sizeOf t).run P=Sem.run P (pure 1):=by
 unfold eN at h
 cases hu:P.underlying t with
 |none=>simp[hu]at h
 |some d=>
  cases hi:P.info? t with
  |none=>cases d<;>simp[hu,hi]at h
  |some i=>
   cases d<;>simp[hu,hi]at h
   all_goals exact⟨by funext w;simp[isAgg,run_underlying hu],by funext w;simp[sizeOf,typeInfo,hi,h]⟩
section
variable {P:Program} {f:Nat→Value} {w:World} {d:Option Nat} {ty:TypeId} {ps:String} {af:Array Edge} {g:Option (Nat×Bool)} {x y c:Operand}
theorem jV (h:dm f x=v):(execOp (dm f) ⟨d, .move x,ty,ps,af,g⟩).run P w= .ok (.value v) w:=by subst h;rfl
theorem FC (h:dm f x=v):(execOp (dm f) ⟨d, .assign x,ty,ps,af,g⟩).run P w= .ok (.value v) w:=by subst h;rfl
theorem NY (hc:dm f c= .bool true) (h:dm f x=v):(execOp (dm f) ⟨d, .pick c x y,ty,ps,af,g⟩).run P w= .ok (.value v) w:=by
 subst h;simp[execOp,hc,asBool]
theorem Oa (hc:dm f c= .bool false) (h:dm f y=v):(execOp (dm f) ⟨d, .pick c x y,ty,ps,af,g⟩).run P w= .ok (.value v) w:=by
 subst h;simp[execOp,hc,asBool]
theorem sc (h:dm f x= .pointer (some a)):(execOp (dm f) ⟨d, .nilCheck x,ty,ps,af,g⟩).run P w= .ok (.value (.pointer (some a))) w:=by
 simp[execOp,h]
variable {t t2:TypeId} {k:IntKind} {a b:Int}
theorem Vl (hx:dm f x= .int k a) (hy:dm f y= .int k b):(execOp (dm f) ⟨d, .binOp .add t x y t2,ty,ps,af,g⟩).run P w= .ok (.value (.int k (k.wrap (a+b)))) w:=by
 simp[execOp,hx,hy,eqGuard,binOp,Op.intArith]
theorem Og (hx:dm f x= .int k a) (hy:dm f y= .int k b):(execOp (dm f) ⟨d, .binOp .sub t x y t2,ty,ps,af,g⟩).run P w= .ok (.value (.int k (k.wrap (a-b)))) w:=by
 simp[execOp,hx,hy,eqGuard,binOp,Op.intArith]
theorem O4 (hx:dm f x= .int k a) (hy:dm f y= .int k b):(execOp (dm f) ⟨d, .binOp .mul t x y t2,ty,ps,af,g⟩).run P w= .ok (.value (.int k (k.wrap (a*b)))) w:=by
 simp[execOp,hx,hy,eqGuard,binOp,Op.intArith]
theorem YX (hx:dm f x= .int k a) (hy:dm f y= .int k b) (hb:b≠0):(execOp (dm f) ⟨d, .binOp .quo t x y t2,ty,ps,af,g⟩).run P w= .ok (.value (.int k (k.wrap (a.tdiv b)))) w:=by
 simp[execOp,hx,hy,eqGuard,binOp,Op.intDiv,hb]
theorem aap (hx:dm f x= .int k a) (hy:dm f y= .int k b) (hb:b≠0):(execOp (dm f) ⟨d, .binOp .rem t x y t2,ty,ps,af,g⟩).run P w= .ok (.value (.int k (a.tmod b))) w:=by
 simp[execOp,hx,hy,eqGuard,binOp,Op.intDiv,hb]
theorem Zm (a b:Int):(a==b)=decide (a=b):=by grind
theorem dO (hx:dm f x= .int k a) (hy:dm f y= .int k b):(execOp (dm f) ⟨d, .binOp .eql t x y t2,ty,ps,af,g⟩).run P w= .ok (.value (.bool (decide (a=b)))) w:=by
 simp[execOp,hx,hy,eqGuard,binOp,Op.intCmp,Zm]
theorem eV (hx:dm f x= .int k a) (hy:dm f y= .int k b):(execOp (dm f) ⟨d, .binOp .neq t x y t2,ty,ps,af,g⟩).run P w= .ok (.value (.bool (decide (¬a=b)))) w:=by
 simp[execOp,hx,hy,eqGuard,binOp,Op.intCmp,bne,Zm]
theorem dq (hx:dm f x= .int k a) (hy:dm f y= .int k b):(execOp (dm f) ⟨d, .binOp .lss t x y t2,ty,ps,af,g⟩).run P w= .ok (.value (.bool (decide (a<b)))) w:=by
 simp[execOp,hx,hy,eqGuard,binOp,Op.intCmp]
theorem tW (hx:dm f x= .int k a) (hy:dm f y= .int k b):(execOp (dm f) ⟨d, .binOp .leq t x y t2,ty,ps,af,g⟩).run P w= .ok (.value (.bool (decide (a≤b)))) w:=by
 simp[execOp,hx,hy,eqGuard,binOp,Op.intCmp]
theorem gQ (hx:dm f x= .int k a) (hy:dm f y= .int k b):(execOp (dm f) ⟨d, .binOp .gtr t x y t2,ty,ps,af,g⟩).run P w= .ok (.value (.bool (decide (b<a)))) w:=by
 simp[execOp,hx,hy,eqGuard,binOp,Op.intCmp]
theorem ky (hx:dm f x= .int k a) (hy:dm f y= .int k b):(execOp (dm f) ⟨d, .binOp .geq t x y t2,ty,ps,af,g⟩).run P w= .ok (.value (.bool (decide (b≤a)))) w:=by
 simp[execOp,hx,hy,eqGuard,binOp,Op.intCmp]
theorem D2 (h1: -9223372036854775808≤z) (h2:z≤9223372036854775807):IntKind.i64.wrap z=z:=by
 rw[IntKind.wrap_i64];omega
theorem d5 (hx:dm f x= .int .i64 a) (hy:dm f y= .int .i64 b) (h1: -9223372036854775808≤a+b) (h2:a+b≤9223372036854775807):
  (execOp (dm f) ⟨d, .binOp .add t x y t2,ty,ps,af,g⟩).run P w= .ok (.value (.int .i64 (a+b))) w:=by rw[Vl hx hy,D2 h1 h2]
theorem jY (hx:dm f x= .int .i64 a) (hy:dm f y= .int .i64 b) (h1: -9223372036854775808≤a-b) (h2:a-b≤9223372036854775807):
  (execOp (dm f) ⟨d, .binOp .sub t x y t2,ty,ps,af,g⟩).run P w= .ok (.value (.int .i64 (a-b))) w:=by rw[Og hx hy,D2 h1 h2]
theorem PV (hx:dm f x= .int .i64 a) (hy:dm f y= .int .i64 b) (h1: -9223372036854775808≤a*b) (h2:a*b≤9223372036854775807):
  (execOp (dm f) ⟨d, .binOp .mul t x y t2,ty,ps,af,g⟩).run P w= .ok (.value (.int .i64 (a*b))) w:=by rw[O4 hx hy,D2 h1 h2]
def ig:IntKind→Nat
 | .i8=>1| .i16=>1| .i32=>2147483648| .i64=>9223372036854775808
 | .u8=>256| .u16=>65536| .u32=>4294967296| .u64=>18446744073709551616
theorem kB (h:m<ig k):k.wrap (m:Int)=(m:Int):=by
 cases k<;>simp only[ig]at h
 ·obtain rfl:m=0:=by omega
  rfl
 ·obtain rfl:m=0:=by omega
  rfl
 ·rw[IntKind.wrap_i32];omega
 ·rw[IntKind.wrap_i64];omega
 ·rw[IntKind.wrap_u8];omega
 ·rw[IntKind.wrap_u16];omega
 ·rw[IntKind.wrap_u32];omega
 ·rw[IntKind.wrap_u64];omega
variable {m n:Nat}
theorem Hv (hx:dm f x= .int k (m:Int)) (hy:dm f y= .int k b) (hb:b=(n:Int)) (hn:0<n) (hm:m<ig k):
  (execOp (dm f) ⟨d, .binOp .quo t x y t2,ty,ps,af,g⟩).run P w= .ok (.value (.int k ((m/n:Nat):Int))) w:=by
 subst hb
 rw[YX hx hy (by omega)]
 have e:(m:Int).tdiv (n:Int)=((m/n:Nat):Int):=by rw[Int.tdiv_eq_ediv_of_nonneg (by omega)];simp
 rw[e,kB (ab8 (acz _ _) hm)]
theorem H6 (hx:dm f x= .int k (m:Int)) (hy:dm f y= .int k b) (hb:b=(n:Int)) (hn:0<n):
  (execOp (dm f) ⟨d, .binOp .rem t x y t2,ty,ps,af,g⟩).run P w= .ok (.value (.int k ((m%n:Nat):Int))) w:=by
 subst hb
 rw[aap hx hy (by omega)]
 grind
theorem Hq (hx:dm f x= .int k (m:Int)) (hy:dm f y= .int k b) (hb:b=(n:Int)) (hm:m+n<ig k):
  (execOp (dm f) ⟨d, .binOp .add t x y t2,ty,ps,af,g⟩).run P w= .ok (.value (.int k ((m+n:Nat):Int))) w:=by
 subst hb
 rw[Vl hx hy]
 have e:(m:Int)+(n:Int)=((m+n:Nat):Int):=by simp
 rw[e,kB hm]
theorem N6 (hx:dm f x= .int k (m:Int)) (hy:dm f y= .int k b) (hb:b=(n:Int)) (hm:m*n<ig k):
  (execOp (dm f) ⟨d, .binOp .mul t x y t2,ty,ps,af,g⟩).run P w= .ok (.value (.int k ((m*n:Nat):Int))) w:=by
 subst hb
 rw[O4 hx hy]
 have e:(m:Int)*(n:Int)=((m*n:Nat):Int):=by simp
 rw[e,kB hm]
theorem wZ (B m:Nat) (h:m<2^B):(BitVec.ofInt B (m:Int)).toNat=m:=by
 grind
theorem yp (k:IntKind):ig k≤2^k.bits:=by cases k<;>simp[ig,IntKind.bits]
theorem AA (k:IntKind):∃j,ig k=2^j:=by
 cases k
 ·exact⟨0,rfl⟩
 ·exact⟨0,rfl⟩
 ·exact⟨31,rfl⟩
 ·exact⟨63,rfl⟩
 ·exact⟨8,rfl⟩
 ·exact⟨16,rfl⟩
 ·exact⟨32,rfl⟩
 ·exact⟨64,rfl⟩
theorem K2 (hm:m<ig k):m &&& n<ig k:=by
 obtain⟨j,e⟩:=AA k
 rw[e]at hm ⊢
 rw[Nat.and_comm]
 exact Nat.and_lt_two_pow _ hm
theorem WA (hm:m<ig k) (hn:n<ig k):m ||| n<ig k:=by
 obtain⟨j,e⟩:=AA k
 rw[e]at hm hn ⊢
 exact Nat.or_lt_two_pow hm hn
theorem KE (hm:m<ig k) (hn:n<ig k):m ^^^ n<ig k:=by
 obtain⟨j,e⟩:=AA k
 rw[e]at hm hn ⊢
 exact Nat.xor_lt_two_pow hm hn
def andNot (m n:Nat):Nat:=m ^^^ (m &&& n)
theorem ee (m n i:Nat):(andNot m n).testBit i=(m.testBit i&& !n.testBit i):=by
 grind [andNot]
theorem It (hm:m<ig k):andNot m n<ig k:=KE hm (K2 hm)
theorem sN (m n:Nat):andNot m n≤m:=by
 have e:andNot m n=m &&& andNot m n:=by
  refine aaF λi=> ?_
  rw[abd,ee]
  cases m.testBit i<;>rfl
 rw[e]
 exact Nat.and_le_left
theorem nH (h:m<ig k):(BitVec.ofInt k.bits (m:Int)).toNat=m:=by grind [wZ,Nat.lt_of_lt_of_le,yp]
theorem nh (hx:dm f x= .int k (m:Int)) (hy:dm f y= .int k b) (hb:b=(n:Int)) (hm:m<ig k) (hn:n<ig k):
  (execOp (dm f) ⟨d, .binOp .and t x y t2,ty,ps,af,g⟩).run P w= .ok (.value (.int k ((m &&& n:Nat):Int))) w:=by
 subst hb
 have e:(BitVec.ofInt k.bits (m:Int) &&& BitVec.ofInt k.bits (n:Int)).toNat=m &&& n:=by
  rw[BitVec.toNat_and,nH hm,nH hn]
 simp only[execOp,hx,hy,eqGuard,binOp,Op.intBits,e,kB (K2 (n:=n) hm)]
 simp
theorem Bk (hx:dm f x= .int k (m:Int)) (hy:dm f y= .int k b) (hb:b=(n:Int)) (hm:m<ig k) (hn:n<ig k):
  (execOp (dm f) ⟨d, .binOp .or t x y t2,ty,ps,af,g⟩).run P w= .ok (.value (.int k ((m ||| n:Nat):Int))) w:=by
 subst hb
 have e:(BitVec.ofInt k.bits (m:Int) ||| BitVec.ofInt k.bits (n:Int)).toNat=m ||| n:=by
  rw[BitVec.toNat_or,nH hm,nH hn]
 simp only[execOp,hx,hy,eqGuard,binOp,Op.intBits,e,kB (WA hm hn)]
 simp
theorem P4 (hx:dm f x= .int k (m:Int)) (hy:dm f y= .int k b) (hb:b=(n:Int)) (hm:m<ig k) (hn:n<ig k):
  (execOp (dm f) ⟨d, .binOp .xor t x y t2,ty,ps,af,g⟩).run P w= .ok (.value (.int k ((m ^^^ n:Nat):Int))) w:=by
 subst hb
 have e:(BitVec.ofInt k.bits (m:Int) ^^^ BitVec.ofInt k.bits (n:Int)).toNat=m ^^^ n:=by
  rw[BitVec.toNat_xor,nH hm,nH hn]
 simp only[execOp,hx,hy,eqGuard,binOp,Op.intBits,e,kB (KE hm hn)]
 simp
theorem rK (hx:dm f x= .int k (m:Int)) (hy:dm f y= .int k b) (hb:b=(n:Int)) (hm:m<ig k) (hn:n<ig k):
  (execOp (dm f) ⟨d, .binOp .andNot t x y t2,ty,ps,af,g⟩).run P w= .ok (.value (.int k ((andNot m n:Nat):Int))) w:=by
 subst hb
 have e:(BitVec.ofInt k.bits (m:Int) &&& ~~~BitVec.ofInt k.bits (n:Int)).toNat=andNot m n:=by
  have h1:=wZ _ _ (ab0 hm (yp k))
  have h2:=wZ _ _ (ab0 hn (yp k))
  refine aaF λi=> ?_
  rw[ee,BitVec.testBit_toNat,BitVec.getLsbD_and,BitVec.getLsbD_not]
  rw[←BitVec.testBit_toNat,←BitVec.testBit_toNat,h1,h2]
  by_cases hi:i<k.bits
  ·simp[hi]
  ·have:m.testBit i=false:=ac8 (ab0 (ab0 hm (yp k)) (aaV (by omega) (by omega)))
   simp[this]
 simp only[execOp,hx,hy,eqGuard,binOp,Op.intBits,e,kB (It hm)]
 simp
def Ka:IntKind→Nat
 | .i8=>0| .i16=>0| .i32=>31| .i64=>63| .u8=>8| .u16=>16| .u32=>32| .u64=>64
theorem Wy (k:IntKind) (j:Nat) (h:j<Ka k):1*2^j<ig k:=by
 rw[abJ]
 have e:ig k=2^Ka k:=by cases k<;>rfl
 rw[e]
 exact ac3 (by decide) h
theorem jK (hx:dm f x= .int k (m:Int)) (hy:dm f y= .int yk b) (hb:0≤b) (hlt:b≤k.bits) (hm:m*2^b.toNat<ig k):
  (execOp (dm f) ⟨d, .binOp .shl t x y t2,ty,ps,af,g⟩).run P w= .ok (.value (.int k ((m*2^b.toNat:Nat):Int))) w:=by
 have hn:¬b<0:=by omega
 have hmin:min b.toNat k.bits=b.toNat:=adm (by omega)
 have e:(m:Int)*2^b.toNat=((m*2^b.toNat:Nat):Int):=by simp
 simp[execOp,hx,hy,eqGuard,binOp,Op.shift,hn,hmin]
 rw[e,kB hm]
theorem XG (hx:dm f x= .int k a) (hy:dm f y= .int yk b) (hb:0≤b):
  (execOp (dm f) ⟨d, .binOp .shl t x y t2,ty,ps,af,g⟩).run P w= .ok (.value (.int k (k.wrap (a*2^(min b.toNat k.bits))))) w:=by
 have hn:¬b<0:=by omega
 simp[execOp,hx,hy,eqGuard,binOp,Op.shift,hn]
theorem ra (hx:dm f x= .int k (m:Int)) (hy:dm f y= .int yk b) (hb:0≤b) (hlt:b≤k.bits):
  (execOp (dm f) ⟨d, .binOp .shr t x y t2,ty,ps,af,g⟩).run P w= .ok (.value (.int k ((m/2^b.toNat:Nat):Int))) w:=by
 have hn:¬b<0:=by omega
 have hmin:min b.toNat k.bits=b.toNat:=adm (by omega)
 have e:(m:Int).fdiv (2^b.toNat)=((m/2^b.toNat:Nat):Int):=by
  have e2:(2:Int)^b.toNat=((2^b.toNat:Nat):Int):=by simp
  have h0:(0:Int)≤((2^b.toNat:Nat):Int):=Int.natCast_nonneg _
  rw[e2,Int.fdiv_eq_ediv_of_nonneg _ h0]
  simp
 simp[execOp,hx,hy,eqGuard,binOp,Op.shift,hn,hmin,e]
theorem eK {b:Bool} (h:dm f x= .bool b):(execOp (dm f) ⟨d, .unOp .not t x,ty,ps,af,g⟩).run P w= .ok (.value (.bool (!b))) w:=by
 simp[execOp,h,Op.unary]
theorem XK {a b:Bool} (hx:dm f x= .bool a) (hy:dm f y= .bool b) (ht:P.underlying t=some .bool):(execOp (dm f) ⟨d, .binOp .eql t x y t2,ty,ps,af,g⟩).run P w= .ok (.value (.bool (decide (a=b)))) w:=by
 have e:decide (a=b)=(a==b):=by cases a<;>cases b<;>rfl
 rw[e]
 have h:=run_equalIn_bool' (P:=P) w 9999 t a b ht
 simp[execOp,hx,hy,eqGuard,binOp,Op.equal,Op.maxDepth,h]
variable {v0 v1 v2 v3:Value}
theorem c7 (h:dm f x= .tuple #[v0,v1]):(execOp (dm f) ⟨d, .extract x 0,ty,ps,af,g⟩).run P w= .ok (.value v0) w:=by simp[execOp,h,Instr.extract]
theorem da (h:dm f x= .tuple #[v0,v1]):(execOp (dm f) ⟨d, .extract x 1,ty,ps,af,g⟩).run P w= .ok (.value v1) w:=by simp[execOp,h,Instr.extract]
theorem gj (h:dm f x= .tuple #[v0,v1,v2]):(execOp (dm f) ⟨d, .extract x 0,ty,ps,af,g⟩).run P w= .ok (.value v0) w:=by simp[execOp,h,Instr.extract]
theorem iy (h:dm f x= .tuple #[v0,v1,v2]):(execOp (dm f) ⟨d, .extract x 1,ty,ps,af,g⟩).run P w= .ok (.value v1) w:=by simp[execOp,h,Instr.extract]
theorem ik (h:dm f x= .tuple #[v0,v1,v2]):(execOp (dm f) ⟨d, .extract x 2,ty,ps,af,g⟩).run P w= .ok (.value v2) w:=by simp[execOp,h,Instr.extract]
theorem EP (h:dm f x= .tuple #[v0,v1,v2,v3]):(execOp (dm f) ⟨d, .extract x 0,ty,ps,af,g⟩).run P w= .ok (.value v0) w:=by simp[execOp,h,Instr.extract]
theorem Gy (h:dm f x= .tuple #[v0,v1,v2,v3]):(execOp (dm f) ⟨d, .extract x 1,ty,ps,af,g⟩).run P w= .ok (.value v1) w:=by simp[execOp,h,Instr.extract]
theorem GL (h:dm f x= .tuple #[v0,v1,v2,v3]):(execOp (dm f) ⟨d, .extract x 2,ty,ps,af,g⟩).run P w= .ok (.value v2) w:=by simp[execOp,h,Instr.extract]
theorem GC (h:dm f x= .tuple #[v0,v1,v2,v3]):(execOp (dm f) ⟨d, .extract x 3,ty,ps,af,g⟩).run P w= .ok (.value v3) w:=by simp[execOp,h,Instr.extract]
theorem NK (h:dm f x= .int k a) (hs:P.underlying t=some desc) (ht:P.underlying t2=some (.int k')):
  (execOp (dm f) ⟨d, .convert t t2 x,ty,ps,af,g⟩).run P w= .ok (.value (.int k' (k'.wrap a))) w:=by
 simp[execOp,h,convert,run_underlying hs,run_underlying ht,Conv.intToInt]
theorem iP (h:dm f x= .int k (m:Int)) (hs:P.underlying t=some desc) (ht:P.underlying t2=some (.int k')) (hm:m<ig k'):
  (execOp (dm f) ⟨d, .convert t t2 x,ty,ps,af,g⟩).run P w= .ok (.value (.int k' (m:Int))) w:=by rw[NK h hs ht,kB hm]
theorem DY (h:cY P q=true):(callFunc q vs).run P w= .ok (.enter q vs) w:=by
 unfold cY at h
 cases hf:P.funcs[q]? with
 |none=>simp[hf]at h
 |some fn=>
  simp only[hf,so,Bool.not_eq_true',beq_eq_false_iff_ne,ne_eq]at h
  obtain⟨b,hb⟩:=Option.isSome_iff_exists.1 h.2
  simp[callFunc,hf,h.1,hb]
theorem iu {q:Nat} {first cap:Array Value} (hq:dm f c= .func (.func q) first cap) (hc:cY P q=true) (hv:(first++args.map (dm f))++cap=vs):
  (execOp (dm f) ⟨d, .call ⟨.value c,args,tys⟩,ty,ps,af,g⟩).run P w= .ok (.enter q vs) w:=by
 subst hv
 simp[execOp,resolve,hq,Deferred.ofValue,invoke,DY hc]
theorem RA {q:Nat} (hc:cY P q=true):
  (execOp (dm f) ⟨d, .call ⟨.value (.func q),#[],tys⟩,ty,ps,af,g⟩).run P w= .ok (.enter q #[]) w:=iu rfl hc fF
theorem Kg {q:Nat} (hc:cY P q=true) (h0:dm f x0=v0):
  (execOp (dm f) ⟨d, .call ⟨.value (.func q),#[x0],tys⟩,ty,ps,af,g⟩).run P w= .ok (.enter q #[v0]) w:=iu rfl hc (by simp[h0])
theorem yl {q:Nat} (hc:cY P q=true) (h0:dm f x0=v0) (h1:dm f x1=v1):
  (execOp (dm f) ⟨d, .call ⟨.value (.func q),#[x0,x1],tys⟩,ty,ps,af,g⟩).run P w= .ok (.enter q #[v0,v1]) w:=iu rfl hc (by simp[h0,h1])
theorem DS {q:Nat} (hc:cY P q=true) (h0:dm f x0=v0) (h1:dm f x1=v1) (h2:dm f x2=v2):
  (execOp (dm f) ⟨d, .call ⟨.value (.func q),#[x0,x1,x2],tys⟩,ty,ps,af,g⟩).run P w= .ok (.enter q #[v0,v1,v2]) w:=iu rfl hc (by simp[h0,h1,h2])
theorem yX {q:Nat} (hq:dm f c= .func (.func q) #[] #[]) (hc:cY P q=true) (h0:dm f x0=v0) (h1:dm f x1=v1):
  (execOp (dm f) ⟨d, .call ⟨.value c,#[x0,x1],tys⟩,ty,ps,af,g⟩).run P w= .ok (.enter q #[v0,v1]) w:=by grind [iu]
theorem eU {q:Nat} {caps:Array Operand} {vs:Array Value} (h:caps.map (dm f)=vs):
  (execOp (dm f) ⟨d, .makeFunc (.func q) #[] caps,ty,ps,af,g⟩).run P w= .ok (.value (.func (.func q) #[] vs)) w:=by
 subst h;simp[execOp,Instr.makeFunc]
end
theorem Fs (w:World) (E:Value→Value→Sem Bool) (A B:Nat→Sem Value) (r:Nat→Bool) (x y:Nat→Value) (n:Nat)
  (hA:∀i,i<n→(A i).run P w= .ok (x i) w) (hB:∀i,i<n→(B i).run P w= .ok (y i) w) (hE:∀i,i<n→(E (x i) (y i)).run P w= .ok (r i) w):
  Sem.run P (do
   for i in [0:n] do
    if !(←E (←A i) (←B i))then return false
   pure true) w= .ok ((List.range n).all r) w:=by
 simp only[Std.Legacy.Range.forIn_eq_forIn_range',Std.Legacy.Range.size,Nat.sub_zero,acN,Nat.div_one]
 rw[List.range_eq_range']
 have key:∀l:List Nat,(∀i∈l,i<n)→Sem.run P (forIn l ((none,()):Option Bool×Unit) λi _=>do
    let a ←A i
    let b ←B i
    let q ←E a b
    if (!q)=true then pure (ForInStep.done (some false,()))else pure (ForInStep.yield (none,()))) w= .ok (if l.all r then (none,())else (some false,())) w:=by
  intro l
  induction l with
  |nil=>intro _;simp
  |cons i l ih=>
   intro hl
   have hi:=hl i (aaZ ..)
   have ih':=ih (λj hj=>hl j (abe _ hj))
   simp only[List.forIn_cons,Sem.run_bind,hA i hi,hB i hi,hE i hi,Result.andThen_ok,acL]
   by_cases hr:r i=true
   ·simpa [hr] using ih'
   ·simp[hr]
 rw[Sem.run_bind,key (List.range' 0 n) fF,Result.andThen_ok]
 cases (List.range' 0 n).all r<;>simp
theorem m6 (w:World) (d n:Nat) (t e:TypeId) (xs ys:Array Value) (x y:Nat→Value) (r:Nat→Bool) (ht:P.underlying t=some (.array n e)) (hs:(P.info? e).map (·.size)=some 1) (ha:(isAgg e).run P w= .ok false w)
  (hx:∀i,i<n→xs[i]? =some (x i)) (hy:∀i,i<n→ys[i]? =some (y i)) (hE:∀i,i<n→(Op.equalIn d e (x i) (y i)).run P w= .ok (r i) w):
  (Op.equalIn (d+1) t (.agg xs) (.agg ys)).run P w= .ok ((List.range n).all r) w:=by
 obtain⟨j5,hj5,hs5⟩:=an.1 hs
 have h:=Fs (P:=P) w (Op.equalIn d e) (λi=>part e xs (i*1)) (λi=>part e ys (i*1)) r x y n
  (λi hi=>by simp[part,ha,hx i hi]) (λi hi=>by simp[part,ha,hy i hi]) hE
 simp only[Op.equalIn,Sem.run_bind,run_underlying ht,Result.andThen_ok,sizeOf,typeInfo]
 simp_all
end
section
def At (w:World) (b:Nat) (c:Array Value) (T:TypeId):Prop:=w.heap[b]? =some (.cells c T (0,0))
section
variable {w w':World} {b b':Nat} {c:Array Value} {T:TypeId} {o:Nat} {v:Value}
theorem At.lt (h:At w b c T):b<w.heap.size:=gX h
theorem dA.at (h:dA w w') (k:At w b c T):At w' b c T:=dA.block h k
instance {w w':World} {b:Nat} {c:Array Value} {T:TypeId}:Kp w w' (At w b c T) (At w' b c T):=⟨dA.at⟩
theorem At.grown {row:Option Nat} (k:At w b c T) (h:w.grownBy w' row) (hne:some b≠row):At w' b c T:=by
 unfold At
 rw[h.block b k.lt hne]
 exact k
theorem At.cell (k:At w b c T) (hc:c[o]? =some v):w.cell? ⟨b,o,none⟩=some v:=by
 rw[cell_of_row w b o c T (0,0) k];exact hc
theorem adT (k:At w b c T) (k':At w b' c' T') (hT:T≠T'):b≠b':=by
 grind [At,Option.some.injEq]
theorem ad7 (h:w.grownBy w' none):dA w w':=⟨h.os,h.tape,h.output,h.size,λk hk=>h.block k hk fF⟩
theorem dA.grown (h:dA w w') (row:Option Nat):w.grownBy w' row:=⟨Below.os h,Below.tape h,Below.output h,Below.size h,λk hk _=>Below.block h k hk⟩
theorem dA.cell (h:dA w w') (k:w.cell? p=some v):w'.cell? p=some v:=by
 rw[Below.cell h (World.block_lt_of_cell? w p k)];exact k
theorem dg {row:Option Nat} (h:Below N a w) (hg:w.grownBy w' row) (hN:N≤a.heap.size) (hr:∀k,row=some k→N≤k):Below N a w':=
 Below.grown h hg (go hN (Below.size h)) hr
end
theorem iw (b o k:Nat):(⟨b,o,none⟩:Addr).add k=⟨b,o+k,none⟩:=by
 unfold Addr.add
 grind
section
variable {P:Program} {f:Nat→Value} {w:World} {d:Option Nat} {ty:TypeId} {ps:String} {af:Array Edge} {g:Option (Nat×Bool)} {x y:Operand}
variable {t:TypeId} {b o:Nat} {v:Value} {c:Array Value} {T:TypeId} {K:Value→World→Prop}
theorem cD (hx:dm f x= .pointer (some ⟨b,o,none⟩)) (hT:eN P t=true) (hc:w.cell? ⟨b,o,none⟩=some v):
  (execOp (dm f) ⟨d, .load t x,ty,ps,af,g⟩).run P w= .ok (.value v) w:=by
 have h1:=congrFun (nx hT).1 w
 simp[execOp,hx,Instr.loadAt,Instr.sureAddr,loadVar,h1,load,Sem.run,hc]
theorem run_loadCells_list (P:Program) (w:World) (a:Addr):∀(vs:List Value) (i:Nat) (acc:Array Value),(∀j u,vs[j]? =some u→w.cell? (a.add (i+j))=some u)→
  (loadCellsFrom a i vs.length acc).run P w= .ok (acc++vs.toArray) w
 |[],i,acc,_=>by simp[loadCellsFrom]
 |u::r,i,acc,h=>by
  have h0:=h 0 u rfl
  rw[ac7]at h0
  have ih:=run_loadCells_list P w a r (i+1) (acc.push u) (λj v hv=>by have:=h (j+1) v (by simpa using hv);rwa [show i+1+j=i+(j+1) from by omega])
  simp only[aaW,loadCellsFrom,Sem.run_bind,load,Sem.run,h0,Result.andThen_ok,ih]
  simp
theorem yK {vs:List Value} {k:Nat} (hx:dm f x= .pointer (some ⟨b,o,none⟩)) (hT:kn P t=some k) (hk:k=vs.length) (hc:∀j u,vs[j]? =some u→w.cell? ⟨b,o+j,none⟩=some u):
  (execOp (dm f) ⟨d, .load t x,ty,ps,af,g⟩).run P w= .ok (.value (.agg vs.toArray)) w:=by
 subst hk
 have h1:=congrFun (mB hT).1 w
 have h2:=congrFun (mB hT).2 w
 have h3:=run_loadCells_list P w ⟨b,o,none⟩ vs 0 #[] (λj u hu=>by rw[iw,acA];exact hc j u hu)
 simp[execOp,hx,Instr.loadAt,Instr.sureAddr,loadVar,h1,h2,loadCells,h3]
theorem cz {k:Nat} (hx:dm f x= .pointer (some ⟨b,0,none⟩)) (hT:kn P t=some k) (hk:k=c.size) (hm:At w b c T):
  (execOp (dm f) ⟨d, .load t x,ty,ps,af,g⟩).run P w= .ok (.value (.agg c)) w:=by
 have h:=yK (P:=P) (f:=f) (w:=w) (d:=d) (ty:=ty) (ps:=ps) (af:=af) (g:=g) (x:=x) (t:=t) (vs:=c.toList) hx hT (by simpa using hk)
  (λj u hu=>by rw[acA];exact hm.cell (by simpa using hu))
 simpa using h
theorem io {v0 v1:Value} (hx:dm f x= .pointer (some ⟨b,o,none⟩)) (hT:kn P t=some 2) (h0:w.cell? ⟨b,o,none⟩=some v0) (h1:w.cell? ⟨b,o+1,none⟩=some v1):
  (execOp (dm f) ⟨d, .load t x,ty,ps,af,g⟩).run P w= .ok (.value (.agg #[v0,v1])) w:=by grind [yK]
theorem jb {v0 v1 v2:Value} (hx:dm f x= .pointer (some ⟨b,o,none⟩)) (hT:kn P t=some 3) (h0:w.cell? ⟨b,o,none⟩=some v0) (h1:w.cell? ⟨b,o+1,none⟩=some v1) (h2:w.cell? ⟨b,o+2,none⟩=some v2):
  (execOp (dm f) ⟨d, .load t x,ty,ps,af,g⟩).run P w= .ok (.value (.agg #[v0,v1,v2])) w:=by grind [yK]
theorem eI {v0 v1 v2 v3:Value} (hx:dm f x= .pointer (some ⟨b,o,none⟩)) (hT:kn P t=some 4) (h0:w.cell? ⟨b,o,none⟩=some v0) (h1:w.cell? ⟨b,o+1,none⟩=some v1) (h2:w.cell? ⟨b,o+2,none⟩=some v2) (h3:w.cell? ⟨b,o+3,none⟩=some v3):
  (execOp (dm f) ⟨d, .load t x,ty,ps,af,g⟩).run P w= .ok (.value (.agg #[v0,v1,v2,v3])) w:=by grind [yK]
theorem lZ (w:World) (c:Array Value) (T:TypeId):At (w.alloc (.cells c T)) w.heap.size c T:=heap_alloc_new w _
theorem cM (hz:d4 P t=some z) (hc:z.cells=c)
  (hK:∀b w',b=w.heap.size→dA w w'→At w' b c t→K (.pointer (some ⟨b,0,none⟩)) w'):Yd P ⟨d, .alloc t,ty,ps,af,g⟩ f w K:=by
 subst hc
 unfold d4 at hz
 obtain⟨i,hi,hzz⟩:=we.1 hz
 refine .val (w':=w.alloc (.cells z.cells t)) ?_ (hK w.heap.size _ rfl (dA.alloc w _) (lZ w _ _))
 simp[execOp,Instr.alloc,zeroValue,typeInfo,hi,hzz,newVar,newRow]
theorem du (hx:dm f x=v) (hc:v.cells=c)
  (hK:∀b w',b=w.heap.size→dA w w'→At w' b c t→K (.pointer (some ⟨b,0,none⟩)) w'):Yd P ⟨d, .box t x,ty,ps,af,g⟩ f w K:=by
 subst hx hc
 refine .val (w':=w.alloc (.cells (dm f x).cells t)) ?_ (hK w.heap.size _ rfl (dA.alloc w _) (lZ w _ _))
 simp[execOp,Instr.box,newVar,newRow]
theorem xU (w:World) (b o:Nat) (v:Value):w.grownBy (w.setCell ⟨b,o,none⟩ v) (some b):=
 ⟨rfl,rfl,rfl,by simp[World.setCell],λk _ hne=>Below.heap_setCell _ _ _ _ (by intro e;exact hne DG)⟩
theorem Ix (P:Program) (hv:v.oneCell'=true) (hm:At w b c T) (ho:o<c.size):
  (store ⟨b,o,none⟩ v).run P w= .ok () (w.setCell ⟨b,o,none⟩ v):=by
 have hc:w.cell? ⟨b,o,none⟩=some c[o]:=hm.cell (by simp[ho])
 have hf:w.frozen? ⟨b,o,none⟩=false:=frozen_of_row w b o c T hm
 cases v<;>first|(simp[Value.oneCell']at hv;done)|simp[store,Sem.run,hc,hf]
theorem IK (hm:At w b c T) (v:Value):At (w.setCell ⟨b,o,none⟩ v) b (c.setIfInBounds o v) T:=heap_setCell_same w b o c T v hm
theorem de (hx:dm f x= .pointer (some ⟨b,o,none⟩)) (hy:dm f y=v) (hT:eN P t=true) (hv:v.oneCell'=true) (hm:At w b c T) (ho:o<c.size)
  (hK:∀w',w.grownBy w' (some b)→At w' b (c.setIfInBounds o v) T→K undef w'):Yd P ⟨d, .store t x y,ty,ps,af,g⟩ f w K:=by
 refine .skip (w':=w.setCell ⟨b,o,none⟩ v) ?_ (hK _ (xU w b o v) (IK hm v))
 have h2:=congrFun (nx hT).2 w
 have hcs:v.cells= #[v]:=by cases v<;>first|rfl|simp[Value.oneCell']at hv
 have hs:=Ix P hv hm ho
 have ha:(⟨b,o,none⟩:Addr).add 0=⟨b,o,none⟩:=rfl
 simp[execOp,hx,hy,Instr.storeAt,Instr.sureAddr,storeVar,h2,hcs,storeCells,ha,hs]
theorem cA (hx:dm f x= .pointer (some ⟨b,0,none⟩)) (hy:dm f y= .agg c') (hT:kn P t=some k) (hk:k=c'.size) (hm:At w b c T) (hs0:k=c.size) (hv0:c'.toList.all Value.oneCell'=true)
  (hK:∀w',w.grownBy w' (some b)→At w' b c' T→K undef w'):Yd P ⟨d, .store t x y,ty,ps,af,g⟩ f w K:=by
 subst hk
 have hs:c'.size=c.size:=hs0
 have h2:=congrFun (mB hT).2 w
 have hv:∀v∈c'.toList,v.oneCell'=true:=λv h=>aa1.1 hv0 v h
 have hst:=run_storeCells_at P b 0 T c'.toList 0 c w hm (by simp[hs]) hv
 have e:(c.toList.take (0+0)++c'.toList++c.toList.drop (0+0+c'.toList.length)).toArray=c':=by
  have h0:c.toList.drop c'.toList.length=[]:=List.drop_of_length_le (by simp[hs])
  simp only[ac7,acA,List.take_zero,aco,h0,acw,Array.toArray_toList]
 rw[e]at hst
 refine .skip (w':=w.setRow b c') ?_ (hK _ ⟨rfl,rfl,rfl,by simp,λj _ hj=>setRow_other w b j _ (λe=>hj DG)⟩ (setRow_heap w b c c' T (0,0) hm))
 simp[execOp,hx,hy,Instr.storeAt,Instr.sureAddr,storeVar,h2,Value.cells,hst]
theorem rR (hx:dm f x= .pointer (some ⟨b,o,none⟩)) (hT:eb P t k=some q):
  (execOp (dm f) ⟨d, .fieldAddr t x k,ty,ps,af,g⟩).run P w= .ok (.value (.pointer (some ⟨b,o+q,none⟩))) w:=by
 unfold eb at hT
 cases hu:P.underlying t with
 |none=>simp[hu]at hT
 |some desc=>
  cases desc<;>simp only[hu,reduceCtorEq]at hT
  obtain⟨fd,hfd,hz⟩:=we.1 hT
  split at hz
  case isFalse=>cases hz
  rename_i hany
  obtain rfl:=aaK hz
  cases hi:P.info? fd.type with
  |none=>simp[hi]at hany
  |some i=>
  simp only[hi,Option.any_some,bne_iff_ne,ne_eq]at hany
  have hn:=hany
  simp[execOp,hx,Instr.fieldAt,run_underlying hu,hfd,Instr.sureAddr,fieldPlace,sizeOf,typeInfo,hi,hn,iw]
theorem ff (hx:dm f x= .pointer (some ⟨b,o,none⟩)) (hy:dm f y= .int k j) (hT:La P t=some (n,sz)) (h0:0≤j) (h1:j<n):
  (execOp (dm f) ⟨d, .indexAddr t x y,ty,ps,af,g⟩).run P w= .ok (.value (.pointer (some ⟨b,o+j.toNat*sz,none⟩))) w:=by
 unfold La at hT
 cases hu:P.underlying t with
 |none=>simp[hu]at hT
 |some desc=>
  cases desc<;>simp[hu]at hT
  obtain⟨i,hi,rfl,rfl⟩:=hT
  simp[execOp,hx,hy,Instr.indexAt,run_underlying hu,asIntOf,Instr.sureAddr,h0,h1,sizeOf,typeInfo,hi,iw]
def EM (v:Value):Option Addr:=match v with| .slice a _ _=>a|_=>none
def Bx (v:Value):Nat:=match v with| .slice (some a) _ _=>a.block|_=>0
def Gk (v:Value):Nat:=match v with| .slice (some a) _ _=>a.off|_=>0
def jn (v:Value):Nat:=match v with| .slice _ _ c=>c|_=>0
end
structure Sl (w:World) (sz:Nat) (v:Value) (n:Nat) (xs:List Value):Prop where
 form:∃a,v= .slice a n (jn v)∧n≤jn v∧(a=none→jn v=0)∧∀a',a=some a'→0<jn v→a'=⟨Bx v,Gk v,none⟩
 len:xs.length=n*sz
 cell:∀j u,xs[j]? =some u→w.cell? ⟨Bx v,Gk v+j,none⟩=some u
section
variable {w w':World} {sz n:Nat} {v:Value} {xs:List Value}
theorem Sl.nil (w:World) (sz:Nat):Sl w sz (.slice none 0 0) 0 []:=⟨⟨none,rfl,am _,λ_=>rfl,λ_ h _=>by cases h⟩,by simp,λj u h=>by simp at h⟩
theorem dA.sl (h:dA w w') (k:Sl w sz v n xs):Sl w' sz v n xs:=⟨k.form,k.len,λj u hu=>h.cell (k.cell j u hu)⟩
theorem Sl.eqn (k:Sl w sz v n xs) (hn:0<n):v= .slice (some ⟨Bx v,Gk v,none⟩) n (jn v):=by
 obtain⟨a,e,h1,h2,h3⟩:=k.form
 cases a with
 |none=>have:=h2 rfl;omega
 |some a'=>
  rw[h3 a' rfl (by omega)]at e
  exact e
theorem aeb (h:w.ownsRow N T sz v n xs):Sl w sz v n xs:=by
 obtain⟨hl,h⟩:=h
 rcases h with ⟨rfl,rfl⟩|⟨g,cap,cur,rfl,hg,hh,hnc,hcm,hcs,ht⟩
 ·have:xs=[]:=ab4 (by simpa using hl)
  subst this
  exact Sl.nil w sz
 ·refine⟨⟨some ⟨g,0,none⟩,rfl,hnc,λh=>(by cases h),λa' h _=>by cases h;rfl⟩,hl,λj u hu=> ?_⟩
  have h1:w.cell? ⟨g,0+j,none⟩=some u:=by
   rw[acA,cell_of_row w g j cur T (0,0) hh]
   rw[←ht,List.getElem?_take]at hu
   split at hu
   ·simpa using hu
   ·cases hu
  exact h1
theorem dA.own (h:dA w w') (k:w.ownsRow N T sz v n xs):w'.ownsRow N T sz v n xs:=k.kept (h.grown none) (by cases v.ownBlock<;>simp)
theorem qg (k:w.ownsRow N T sz v n xs) (hm:At w b c T') (hT:T'≠T):some b≠v.ownBlock:=by
 intro e
 rcases k.2 with ⟨rfl,rfl⟩|⟨g,cap,cur,rfl,hg,hh,_⟩
 ·simp[Value.ownBlock]at e
 ·simp[Value.ownBlock]at e
  grind [At,Option.some.injEq]
theorem He (k:w.ownsRow N T sz v n xs) (k':w.ownsRow N' T' sz' v' n' xs') (hT:T'≠T):v'.ownBlock=none∨v'.ownBlock≠v.ownBlock:=by
 rcases k'.2 with ⟨rfl,rfl⟩|⟨g,cap,cur,rfl,hg,hh,_⟩
 ·exact .inl rfl
 ·exact .inr (qg k (b:=g) (c:=cur) (T':=T') hh hT)
end
section
variable {P:Program} {f:Nat→Value} {w:World} {d:Option Nat} {ty:TypeId} {ps:String} {af:Array Edge} {g:Option (Nat×Bool)} {x y:Operand}
variable {t:TypeId} {b o:Nat} {v u:Value} {c:Array Value} {T e:TypeId} {K:Value→World→Prop} {n sz by_:Nat} {xs ys:List Value}
theorem dp (hx:dm f x=v) (hs:Sl w0 sz v n xs) (hy:dm f y= .int k j) (hT:fj P t=some (e,sz,by_)) (h0:0≤j) (h1:j<n):
  (execOp (dm f) ⟨d, .indexAddr t x y,ty,ps,af,g⟩).run P w= .ok (.value (.pointer (some ⟨Bx v,Gk v+j.toNat*sz,none⟩))) w:=by
 unfold fj at hT
 have hv:=hs.eqn (by omega)
 cases hu:P.underlying t with
 |none=>simp[hu]at hT
 |some desc=>
  cases desc<;>simp[hu]at hT
  obtain⟨i,hi,rfl,rfl,rfl⟩:=hT
  generalize Bx v=B at*
  generalize Gk v=O at*
  generalize jn v=C at*
  subst hv
  simp[execOp,hx,hy,Instr.indexAt,run_underlying hu,asIntOf,h0,h1,sizeOf,typeInfo,hi,iw]
theorem db (hx:dm f x=v) (hs:Sl w0 sz v n xs) (hT:fj P t=some (k,by2)):
  (execOp (dm f) ⟨d, .call ⟨.builtin .len,#[x],#[t]⟩,ty,ps,af,g⟩).run P w= .ok (.value (.int .i64 (n:Int))) w:=by
 unfold fj at hT
 obtain⟨a,hv,_⟩:=hs.form
 cases hu:P.underlying t with
 |none=>simp[hu]at hT
 |some desc=>
  cases desc<;>simp[hu]at hT
  generalize jn v=C at*
  subst hv
  simp[execOp,resolve,invoke,builtin,hx,Builtin.len_,run_underlying hu,goInt]
theorem MA (l:List Value):∀(k:Nat) (cs:Array Value),k+l.length≤cs.size→
  (l.zipIdx k).foldl (λcs (p:Value×Nat)=>cs.setIfInBounds (0+p.2) p.1) cs=(cs.toList.take k++l++cs.toList.drop (k+l.length)).toArray:=by
 induction l with
 |nil=>intro k cs _;simp
 |cons u r ih=>
  intro k cs h
  simp only[aaW]at h
  rw[List.zipIdx_cons,adn,ih (k+1) _ ix]
  have:=list_seg_step cs.toList k u r (by simpa using h)
  simp only[acA,Array.toList_setIfInBounds]
  rw[this]
  rfl
theorem Ou (u:Value) (z:Array Value) (sz:Nat) (hu:u.cells.size=sz) (hz:z.size=sz):Instr.fill (λi=>some (i*sz,sz)) z [(0,u)]=some u.cells:=by
 have h:=MA u.cells.toList 0 z (by simp[hu,hz])
 have e0:z.toList.drop (0+u.cells.toList.length)=[]:=List.drop_of_length_le (by simp[hu,hz])
 rw[e0]at h
 simp only[List.take_zero,aco,acw,Array.toArray_toList]at h
 simp only[Instr.fill,hu,acV,acA,hz,ne_eq,not_true_eq_false,decide_false,Nat.lt_irrefl,gt_iff_lt,Bool.or_self,acZ,if_false]
 rw[←Array.foldl_toList,Array.toList_zipIdx]
 grind
theorem ez (hx:dm f x=u) (hT:fj P t=some (e,sz,by_)) (hz:(d4 P e).map (λz=>z.cells.size)=some sz) (hu:u.cells.size=sz) (hsz:0<sz) (hsz2:sz≤100)
  (hK:∀b w',b=w.heap.size→dA w w'→At w' b u.cells e→K (.slice (some ⟨b,0,none⟩) 1 1) w'):Yd P ⟨d, .buildSlice t 1 #[(0,x)],ty,ps,af,g⟩ f w K:=by
 obtain⟨z,hz,hzs⟩:=an.1 hz
 unfold d4 at hz
 obtain⟨i,hi,hzz⟩:=we.1 hz
 unfold fj at hT
 cases hun:P.underlying t with
 |none=>simp[hun]at hT
 |some desc=>
  cases desc<;>simp[hun]at hT
  rename_i e'
  obtain⟨i',hi',rfl,h1,rfl⟩:=hT
  obtain rfl:i'=i:=by rw[hi]at hi';exact(aaK hi').symm
  refine .val (w':=w.alloc (.cells u.cells e')) ?_ (hK w.heap.size _ rfl (dA.alloc w _) (lZ w _ _))
  have hbig:¬16777216<sz:=by omega
  have hne:¬sz=0:=by omega
  have hf:=Ou u ((Array.range sz).map (z.cells[·%z.cells.size]!)) sz hu fF
  simp[execOp,hx,Instr.buildSlice,run_underlying hun,sizeOf,typeInfo,hi,h1,zeroValue,hzz,hne,hbig,newRow,hf]
theorem dP (hx:dm f x=v) (hy:dm f y=v2) (hT:fj P t=some (e,sz,by_)) (hz:(d4 P e).map (λz=>z.cells.size)=some sz) (hsz:0<sz)
  (ho:w.ownsRow N e sz v n xs) (hs:Sl w sz v2 m ys) (h10:ys.all Value.oneCell'=true) (hN:N≤w.heap.size) (hb:(n+m)*by_≤140737488355328) (hm:n+m≤9223372036854775807)
  (hK:∀v' w',w.grownBy w' v.ownBlock→w'.ownsRow N e sz v' (n+m) (xs++ys)→K v' w'):Yd P ⟨d, .call ⟨.builtin .append,#[x,y],#[t,t]⟩,ty,ps,af,g⟩ f w K:=by
 have h1:∀u∈ys,u.oneCell'=true:=λu h=>aa1.1 h10 u h
 obtain⟨z,hz,hzs⟩:=an.1 hz
 unfold d4 at hz
 obtain⟨i,hi,hzz⟩:=we.1 hz
 unfold fj at hT
 cases hun:P.underlying t with
 |none=>simp[hun]at hT
 |some desc=>
  cases desc<;>simp[hun]at hT
  rename_i e'
  obtain⟨i',hi',rfl,h3,rfl⟩:=hT
  obtain rfl:i'=i:=by rw[hi]at hi';exact(aaK hi').symm
  by_cases hm0:m=0
  ·subst hm0
   have hys:ys=[]:=ab4 (by simpa using hs.len)
   subst hys
   have hrun:(Builtin.append_ #[t,t] ty #[v,v2]).run P w= .ok v w:=by
    obtain⟨a2,hv2,_⟩:=hs.form
    generalize jn v2=c2 at hv2
    subst hv2
    rcases ho.2 with ⟨rfl,rfl⟩|⟨q,cap,cur,rfl,hg,hh,hnc,hcm,hcs,ht⟩
    ·simp[Builtin.append_,run_underlying hun,sizeOf,typeInfo,hi,Builtin.lenOf,Builtin.firstCells]
     cases a2<;>simp[loadCells,loadCellsFrom]
    ·cases a2<;>simp[Builtin.append_,run_underlying hun,sizeOf,typeInfo,hi,Builtin.lenOf,Builtin.firstCells,loadCells,loadCellsFrom,hnc,storeCells]
   refine .val (v:=v) (w':=w) ?_ (hK v w (World.grownBy.refl w _) (by simpa using ho))
   simp[execOp,resolve,invoke,builtin,hx,hy,hrun]
  ·have hv2:=hs.eqn (by omega)
   have hcell:=hs.cell
   generalize Bx v2=B at*
   generalize Gk v2=O at*
   generalize jn v2=C at*
   subst hv2
   obtain⟨v',w',hr,h4,h5,_⟩:=run_append_own (P:=P) w N t ty e' i' z sz i'.bytes hun hi hzz h3 rfl hzs hsz v n xs ho ⟨B,O,none⟩ m C ys hs.len
    (λj u hu=>by rw[iw];exact hcell j u hu) h1 (by simpa [maxLen] using hm) hb hN
   refine .val (v:=v') (w':=w') ?_ (hK v' w' h5 h4)
   simp[execOp,resolve,invoke,builtin,hx,hy,hr]
end
theorem aec {xs:List Value} (h:Below w.heap.size w W) (k:Sl w sz v n xs):Sl W sz v n xs:=
 ⟨k.form,k.len,λj u hu=>by have hc:=k.cell j u hu;rw[Below.cell h (World.block_lt_of_cell? w _ hc)];exact hc⟩
theorem On (h:Below w.heap.size w W) (k:At w b c T):At W b c T:=by
 unfold At;rw[Below.block h b k.lt];exact k
theorem eJ (k:At w b c T) (hs:c.size=sz):Sl w sz (.slice (some ⟨b,0,none⟩) 1 1) 1 c.toList:=
 ⟨⟨some ⟨b,0,none⟩,rfl,am _,λh=>(by cases h),λa' h _=>by cases h;rfl⟩,by simp[hs],λj u hu=>by
  show w.cell? ⟨b,0+j,none⟩=some u
  rw[acA]
  exact k.cell (by simpa using hu)⟩
theorem z6 {α:Type} {enc:α→List Value} (he:∀a,(enc a).length=sz):∀(l:List α) (k r:Nat) (d:α),k<l.length→r<sz→(l.flatMap enc)[k*sz+r]? =(enc (l.getD k d))[r]?
 |[],k,r,d,h,_=>by simp at h
 |a::l,0,r,d,_,hr=>by
  rw[ach,acV,acA,acI (by rw[he];exact hr)]
  rfl
 |a::l,k+1,r,d,h,hr=>by
  have h1:sz≤(k+1)*sz+r:=by rw[act];omega
  rw[ach,acE (by rw[he];exact h1),he]
  have e:(k+1)*sz+r-sz=k*sz+r:=by rw[act];omega
  rw[e,z6 he l k r d (by simpa using h) hr]
  simp
theorem mI {α:Type} {enc:α→List Value} {sz:Nat} (he:∀a,(enc a).length=sz) (l:List α):(l.flatMap enc).length=l.length*sz:=by
 induction l with
 |nil=>simp
 |cons a l ih=>rw[ach,An,ih,he,aaW,act];omega
def dr {α:Type} (enc:α→List Value) (sz:Nat) (w:World) (v:Value) (l:List α):Prop:=Sl w sz v l.length (l.flatMap enc)
def cH {α:Type} (enc:α→List Value) (sz:Nat) (T:TypeId) (w:World) (N:Nat) (v:Value) (l:List α):Prop:=w.ownsRow N T sz v l.length (l.flatMap enc)
section
variable {α:Type} {enc:α→List Value} {sz:Nat} {T:TypeId} {w w':World} {N:Nat} {v:Value} {l:List α}
theorem cH.sl (h:cH enc sz T w N v l):dr enc sz w v l:=aeb h
theorem cH.nil:cH enc sz T w N (.slice none 0 0) []:=World.ownsRow_nil w N T sz
theorem dA.slT (h:dA w w') (k:dr enc sz w v l):dr enc sz w' v l:=dA.sl h k
instance {w w':World}:Kp w w' (dr enc sz w v l) (dr enc sz w' v l):=⟨dA.slT⟩
theorem dA.ow (h:dA w w') (k:cH enc sz T w N v l):cH enc sz T w' N v l:=dA.own h k
instance {w w':World} {N:Nat} {T:TypeId}:Kp w w' (cH enc sz T w N v l) (cH enc sz T w' N v l):=⟨dA.ow⟩
theorem Below.slT (h:Below w.heap.size w W) (k:dr enc sz w v l):dr enc sz W v l:=aec h k
theorem cH.mono (k:cH enc sz T w N v l) (h:N'≤N):cH enc sz T w N' v l:=by
 refine⟨k.1,?_⟩
 rcases k.2 with h2|⟨g,cap,cur,h3,hg,r⟩
 ·exact .inl h2
 ·exact .inr ⟨g,cap,cur,h3,go h hg,r⟩
theorem cH.lt (k:cH enc sz T w N v l):∀j,v.ownBlock=some j→N≤j:=λj hj=>(World.ownsRow.lt k j hj).1
theorem dr.cell (hs:dr enc sz w v l) (he:∀a,(enc a).length=sz) (d:α) {j:Int} (h0:0≤j) (h1:j<l.length) (r:Nat) {u:Value} (hu:(enc (l.getD j.toNat d))[r]? =some u):
  w.cell? ⟨Bx v,Gk v+j.toNat*sz+r,none⟩=some u:=by
 have hr:r<sz:=by
  have:=(acS.1 hu).1
  rwa [he]at this
 have h:=Sl.cell hs (j.toNat*sz+r) u (by rw[z6 he l j.toNat r d (by omega) hr];exact hu)
 grind
theorem cH.snoc {xs ys:List Value} (hn:n=l.length) (hm:m=1) (hx:xs=l.flatMap enc) (hy:ys=enc x) (h:w.ownsRow N T sz v (n+m) (xs++ys)):cH enc sz T w N v (l++[x]):=by
 grind [cH,List.length_append]
theorem cH.app {xs ys:List Value} (hn:n=l.length) (hm:m=l2.length) (hx:xs=l.flatMap enc) (hy:ys=l2.flatMap enc) (h:w.ownsRow N T sz v (n+m) (xs++ys)):cH enc sz T w N v (l++l2):=by
 grind [cH,List.length_append]
theorem cH.grownAt (k:cH enc sz T w N v l) (hm:At w b c T') (hG:w.grownBy w' (some b)) (hT:T'≠T):cH enc sz T w' N v l:=
 World.ownsRow.kept k hG (.inr (λe=>qg k hm hT e.symm))
theorem At.grownOw (hm:At w b c T') (k:cH enc sz T w N v l) (hG:w.grownBy w' v.ownBlock) (hT:T'≠T):At w' b c T':=
 hm.grown hG (qg k hm hT)
theorem cH.grownOw {β:Type} {enc':β→List Value} {sz':Nat} {T':TypeId} {N':Nat} {v':Value} {l':List β} (k':cH enc' sz' T' w N' v' l') (k:cH enc sz T w N v l) (hG:w.grownBy w' v.ownBlock) (hT:T'≠T):cH enc' sz' T' w' N' v' l':=
 World.ownsRow.kept k' hG (He k k' hT)
theorem At.grownAt (hm:At w b c T) (hm':At w b' c' T') (hG:w.grownBy w' (some b')) (hT:T≠T'):At w' b c T:=
 hm.grown hG (λe=>adT hm hm' hT (aaK e))
theorem At.grownNe (hm:At w b c T) (hne:b≠b') (hG:w.grownBy w' (some b')):At w' b c T:=
 hm.grown hG (λe=>hne (aaK e))
end
def nt (vs:List Value) (k:Nat):Nat→Value:=
 match vs with
 |[]=>λ_=>undef
 |v::r=>upd (nt r (k+1)) k v
def aaL (P:Program) (f:Nat→Value) (w:World) (rs:Array ResultVar) (v:Value):Prop:=
 ∀(tmps:Array Value) (fn:Func),(∀t,tmps.getD t undef=f t)→fn.results=rs→(results fn tmps).run P w= .ok v w
def mV (P:Program) (rs:Array ResultVar) (Post:Value→World→Prop):Exit→(Nat→Value)→World→Prop
 | .ret,f,w| .normal,f,w=>∃v,aaL P f w rs v∧Post v w
 |_,_,_=>False
theorem EW (vs:List Value):∀(k t:Nat),k≤t→nt vs k t=vs.getD (t-k) undef:=by
 induction vs with
 |nil=>intro k t _;rfl
 |cons v r ih=>
  intro k t h
  by_cases e:t=k
  ·subst e;rw[nt,zA];simp
  ·rw[nt,D8 _ _ e,ih (k+1) t (by omega)]
   have e2:t-k=(t-(k+1))+1:=by omega
   rw[e2];simp
structure lk (P:Program) (g:Nat) (vs:Array Value) (w:World) (Post:Value→World→Prop):Prop where
 out:Calls P g vs w λe w'=>∃v,e= .returned v∧Post v w'
theorem sT {g:Nat} (hf:P.funcs[g]? =some fn) (hb:fn.body=some c) (hn:fn.ntmps=n) (hv:vs.length≤n)
  (h:WC P n c (mV P fn.results Post) (nt vs 0) w):lk P g vs.toArray w Post:=by
 refine⟨?_⟩
 refine calls_of_wp hf hb ?_
 subst hn
 have hr:EF fn.ntmps (nt vs 0) {tmps:=vs.toArray++Array.replicate (fn.ntmps-vs.toArray.size) undef,defers:=[]}:=by
  refine⟨rfl,by simp;omega,λt=> ?_⟩
  rw[EW vs 0 t (me _),Nat.sub_zero]
  simp only[acv,Array.getElem?_append,List.size_toArray,List.getElem?_toArray,Array.getElem?_replicate,List.getD]
  split
  ·rfl
  ·rename_i hge
   rw[List.getElem?_eq_none (by omega)]
   split<;>rfl
 refine Code.wp_mono (λe a w' hq=> ?_) (h.out _ hr)
 obtain⟨f',hr',hq⟩:=hq
 cases e with
 |ret=>
  obtain⟨v,h1,h2⟩:=hq
  exact⟨hr'.defers,v,h1 _ fn hr'.get rfl,v,rfl,h2⟩
 |normal=>
  obtain⟨v,h1,h2⟩:=hq
  exact⟨hr'.defers,v,h1 _ fn hr'.get rfl,v,rfl,h2⟩
 |exit id=>exact hq.elim
 |goto l=>exact hq.elim
 |panic c=>exact hq.elim
 |outgrown=>exact hq.elim
theorem N3 {g:Nat} (hf:P.funcs[g]? =some fn) (hb:fn.body=some c) (hn:fn.ntmps=n) (hv:vs.length≤n)
  (h:WC P n c (mV P fn.results λv w'=>dA w w'∧Post v w') (nt vs 0) w):Fn P g vs.toArray w Post:=⟨(sT hf hb hn hv h).out⟩
theorem cK {P:Program} {g:Nat} {fn:Func} {c:Code} {n:Nat} {vs:List Value} {w:World} {Post:Value→World→Prop} (hf:P.funcs[g]? =some fn) (hb:fn.body=some c) (hn:fn.ntmps=n) (hv:Nat.ble vs.length n=true)
  (h:Below w.heap.size w w→WC P n c (mV P fn.results λv w'=>dA w w'∧Post v w') (nt vs 0) w):Fn P g vs.toArray w Post:=N3 hf hb hn (adz hv) (h (Below.refl _ _))
theorem dL {P:Program} {g:Nat} {fn:Func} {c:Code} {n:Nat} {vs:List Value} {w:World} {Post:Value→World→Prop} {N:Nat} (hf:P.funcs[g]? =some fn) (hb:fn.body=some c) (hn:fn.ntmps=n) (hv:Nat.ble vs.length n=true)
  (h:Below N w w→WC P n c (mV P fn.results Post) (nt vs 0) w):lk P g vs.toArray w Post:=sT hf hb hn (adz hv) (h (Below.refl _ _))
section
variable {P:Program} {f:Nat→Value} {w:World} {t u s r:Nat} {v v1 v2 v3:Value} {Post:Value→World→Prop} {T T' T2 T2':TypeId} {b:Nat} {c:Array Value}
theorem eB (h:mV P rs Post .ret f w):mV P rs Post .normal f w:=h
theorem ob (hp:Post (.tuple #[]) w):mV P #[] Post .ret f w:=by
 refine⟨_,λtmps fn ht hr=> ?_,hp⟩
 simp[results,hr]
theorem cZ (h:f t=v) (hp:Post v w):mV P #[.tmp t] Post .ret f w:=by
 refine⟨v,λtmps fn ht hr=> ?_,hp⟩
 rw[←h,←ht t];simp[results,hr]
theorem dH (h:f t=v) (h1:f u=v1) (hp:Post (.tuple #[v,v1]) w):mV P #[.tmp t, .tmp u] Post .ret f w:=by
 refine⟨_,λtmps fn ht hr=> ?_,hp⟩
 rw[←h,←h1,←ht t,←ht u];simp[results,hr]
theorem Km (h:f t=v) (h1:f u=v1) (h2:f s=v2) (hp:Post (.tuple #[v,v1,v2]) w):mV P #[.tmp t, .tmp u, .tmp s] Post .ret f w:=by
 refine⟨_,λtmps fn ht hr=> ?_,hp⟩
 rw[←h,←h1,←h2,←ht t,←ht u,←ht s];simp[results,hr]
theorem Hb (h:f t=v) (h1:f u=v1) (h2:f s=v2) (h3:f r=v3) (hp:Post (.tuple #[v,v1,v2,v3]) w):mV P #[.tmp t, .tmp u, .tmp s, .tmp r] Post .ret f w:=by
 refine⟨_,λtmps fn ht hr=> ?_,hp⟩
 rw[←h,←h1,←h2,←h3,←ht t,←ht u,←ht s,←ht r];simp[results,hr]
theorem nr (hT:kn P T=some c.size) (hm:At w b c T'):(loadVar T ⟨b,0,none⟩).run P w= .ok (.agg c) w:=by
 have h1:=congrFun (mB hT).1 w
 have h2:=congrFun (mB hT).2 w
 have h3:=run_loadCells_list P w ⟨b,0,none⟩ c.toList 0 #[] (λj u hu=>by rw[iw];simp only[acA];exact hm.cell (by simpa using hu))
 rw[adt]at h3
 simp[loadVar,h1,h2,loadCells,h3]
theorem jp (h:f t= .pointer (some ⟨b,0,none⟩)) (hT:kn P T=some k) (hm:At w b c T') (hk:k=c.size) (hp:Post (.agg c) w):mV P #[.cell t T] Post .ret f w:=by
 refine⟨_,λtmps fn ht hr=> ?_,hp⟩
 have e:=ht t
 rw[h]at e
 have hl:=nr (hk▸hT) hm
 simp only[acv]at e
 simp[results,hr,e,asAddr,hl]
theorem ex (h:f t= .pointer (some ⟨b,0,none⟩)) (hT:kn P T=some k) (hm:At w b c T') (hk:k=c.size) (h1:f u=v1) (hp:Post (.tuple #[.agg c,v1]) w):mV P #[.cell t T, .tmp u] Post .ret f w:=by
 refine⟨_,λtmps fn ht hr=> ?_,hp⟩
 have e:=ht t
 have e1:=ht u
 rw[h]at e
 rw[h1]at e1
 have hl:=nr (hk▸hT) hm
 simp only[acv]at e e1
 simp[results,hr,e,e1,asAddr,hl]
theorem jM (h:f t= .pointer (some ⟨b,0,none⟩)) (hT:kn P T=some k) (hm:At w b c T') (hk:k=c.size) (h1:f u=v1) (h2:f s=v2) (hp:Post (.tuple #[.agg c,v1,v2]) w):mV P #[.cell t T, .tmp u, .tmp s] Post .ret f w:=by
 refine⟨_,λtmps fn ht hr=> ?_,hp⟩
 have e:=ht t
 have e1:=ht u
 have e2:=ht s
 rw[h]at e
 rw[h1]at e1
 rw[h2]at e2
 have hl:=nr (hk▸hT) hm
 simp only[acv]at e e1 e2
 simp[results,hr,e,e1,e2,asAddr,hl]
end
end
section
def wd (s i:Nat):Nat:=s/2^(64*i)%2^64
abbrev wv (s i:Nat):Value:= .int .u64 ((wd s i:Nat):Int)
abbrev el (s:Nat):Value:= .agg #[wv s 0,wv s 1,wv s 2,wv s 3]
structure Cb where
 m:Nat
 v:Nat
 deriving DecidableEq,Repr
structure Rw where
 c:Cb
 o:Nat
 deriving DecidableEq,Repr
def AP (b:Bool):List Value:=[.bool b]
def dX (z:Int):List Value:=[.int .i64 z]
def iI (c:Cb):List Value:=[.int .u8 (c.m:Int), .int .u8 (c.v:Int)]
def gz (r:Rw):List Value:=[.int .u8 (r.c.m:Int), .int .u8 (r.c.v:Int), .int .u8 (r.o:Int)]
def eX (s:Nat):List Value:=[wv s 0,wv s 1,wv s 2,wv s 3]
theorem xB (s i:Nat):wd s i<18446744073709551616:=Nat.mod_lt _ (by decide)
theorem IJ (s i:Nat):wd s i<ig .u64:=xB s i
theorem iz (s i j:Nat):(wd s i).testBit j=(decide (j<64)&&s.testBit (64*i+j)):=by
 unfold wd
 rw[Nat.testBit_mod_two_pow,Nat.testBit_div_two_pow,Nat.add_comm]
theorem Te (hs:s<2^256) (ht:t<2^256) (h0:wd s 0=wd t 0) (h1:wd s 1=wd t 1) (h2:wd s 2=wd t 2) (h3:wd s 3=wd t 3):s=t:=by
 refine aaF λp=> ?_
 grind [wd,iz,Nat.mod_lt,Nat.pow_le_pow_right,Nat.testBit_lt_two_pow,Nat.lt_of_lt_of_le]
theorem kT (hx:x<2^64) (h:∀j,j<64→x.testBit j=s.testBit (64*i+j)):wd s i=x:=by
 refine aaF λj=> ?_
 rw[iz]
 by_cases hj:j<64
 ·simp[hj,h j hj]
 ·have hle:2^64≤2^j:=aaV (by decide) (by omega)
  grind [Nat.testBit_lt_two_pow,Nat.lt_of_lt_of_le]
theorem UW (s t i:Nat):wd (s ||| t) i=wd s i ||| wd t i:=
 kT (Nat.or_lt_two_pow (xB s i) (xB t i)) λj hj=>by simp[acq,iz,hj]
theorem Ws (s t i:Nat):wd (s &&& t) i=wd s i &&& wd t i:=
 kT (Nat.and_lt_two_pow _ (xB t i)) λj hj=>by simp[abd,iz,hj]
theorem L3 (s t i:Nat):wd (andNot s t) i=andNot (wd s i) (wd t i):=
 kT (ab8 (sN _ _) (xB s i)) λj hj=>by simp[ee,iz,hj]
def oF (p:Int):Bool:=decide (0≤p)&&decide (p<256)
def Ez (s:Nat) (p:Int):Bool:=oF p&&s.testBit p.toNat
def mT (s:Nat) (p:Int):Nat:=if oF p then s ||| 2^p.toNat else s
theorem WD (p i:Nat):wd (2^p) i=if p/64=i then 2^(p%64)else 0:=by
 split
 ·rename_i e
  refine kT (ac3 (by decide) (Nat.mod_lt _ (by decide))) λj hj=> ?_
  rw[ab5,ab5]
  congr 1
  refine propext ?_
  omega
 ·rename_i e
  refine kT (by decide) λj hj=> ?_
  grind
theorem T4 (x j:Nat):x &&& 2^j=if x.testBit j then 2^j else 0:=by
 refine aaF λi=> ?_
 grind
theorem rC (b:Bool):(AP b).length=1:=rfl
theorem eD (z:Int):(dX z).length=1:=rfl
theorem gx (c:Cb):(iI c).length=2:=rfl
theorem eC (r:Rw):(gz r).length=3:=rfl
theorem dk (s:Nat):(eX s).length=4:=rfl
theorem pI (s i:Nat) (h:i<4):(#[wv s 0,wv s 1,wv s 2,wv s 3]:Array Value)[0+((i:Nat):Int).toNat*1]? =some (wv s i):=by
 grind
theorem EV (h:i<4) (hs:∀j,j<4→wd s' j=if j=i then x else wd s j):
  (#[wv s 0,wv s 1,wv s 2,wv s 3]:Array Value).setIfInBounds (0+((i:Nat):Int).toNat*1) (.int .u64 (x:Int))= #[wv s' 0,wv s' 1,wv s' 2,wv s' 3]:=by
 grind
theorem Hf {s q:Nat} (hq:q<256):∀j,j<4→wd (mT s q) j=if j=q/64 then wd s (q/64) ||| 2^(q%64)else wd s j:=by
 intro j _
 have hm:oF (q:Int)=true:=by simp[oF];omega
 simp only[mT,hm,if_true,my,UW,WD]
 grind
theorem Ll (hq:q<256):decide ((0:Int)<((wd s (q/64) &&& 2^(q%64):Nat):Int))=Ez s q:=by
 have hm:oF (q:Int)=true:=by simp[oF];omega
 rw[T4,iz]
 have e:64*(q/64)+q%64=q:=by omega
 simp only[Ez,hm,ack,my,e,Nat.mod_lt q (show 64>0 by decide),decide_true]
 grind
def Ho (op:Nat→Nat→Nat) (s t k:Nat):Array Value:=
 #[.int .u64 ((if 0<k then op (wd s 0) (wd t 0)else 0:Nat):Int), .int .u64 ((if 1<k then op (wd s 1) (wd t 1)else 0:Nat):Int),
  .int .u64 ((if 2<k then op (wd s 2) (wd t 2)else 0:Nat):Int), .int .u64 ((if 3<k then op (wd s 3) (wd t 3)else 0:Nat):Int)]
theorem LI (op:Nat→Nat→Nat) (s t k:Nat):(Ho op s t k).size=4:=rfl
theorem N0 (op:Nat→Nat→Nat) (s t k:Nat) (h:k<4):(Ho op s t k).setIfInBounds (0+((k:Nat):Int).toNat*1) (.int .u64 ((op (wd s k) (wd t k):Nat):Int))=Ho op s t (k+1):=by
 have:k=0∨k=1∨k=2∨k=3:=by omega
 rcases this with rfl|rfl|rfl|rfl<;>rfl
theorem zF (h:∀j,wd r j=op (wd s j) (wd t j)):Value.agg (Ho op s t 4)=el r:=by
 simp[Ho,h]
theorem zQ {s k:Nat} (h:k<256):Ez s (k:Int)=s.testBit k:=by
 grind [oF,Ez]
def ej (s:Nat):List Int:=((List.range 256).filter λp:Nat=>s.testBit p).map λp:Nat=>(p:Int)
def uc (s k:Nat):List Int:=((List.range k).filter λp:Nat=>s.testBit p).map λp:Nat=>(p:Int)
theorem xt (s k:Nat):uc s (k+1)=if s.testBit k then uc s k++[(k:Int)]else uc s k:=by
 grind [uc,List.range_succ]
theorem ug (s k:Nat):(uc s k).length≤k:=by
 unfold uc
 grind
theorem jC:x∈ej s↔∃p:Nat,p<256∧s.testBit p=true∧x=p:=by
 grind [ej]
theorem mv (s:Nat):(ej s).length≤256:=ug s 256
theorem dF {α:Type} {l:List α} {i:Nat} {d:α} (h:i<l.length):l.getD i d∈l:=by
 grind
theorem mq {s i:Nat} (h:i<(ej s).length):∃p:Nat,p<256∧s.testBit p=true∧(ej s).getD i 0=p:=jC.1 (dF h)
def fk (n:Nat):Nat:=2^2^n-1
def r7 (k:Nat):Nat:=2^k-1
theorem sJ (k p:Nat):(r7 k).testBit p=decide (p<k):=adx k p
theorem fo (n p:Nat):(fk n).testBit p=decide (p<2^n):=adx _ p
theorem D6 (h:k<256):mT (r7 k) (k:Int)=r7 (k+1):=by
 have hm:oF (k:Int)=true:=by simp[oF];omega
 refine aaF λp=> ?_
 simp only[mT,hm,if_true,my,acq,sJ,ab5]
 grind
def qX (s i:Nat) (one:Bool):Nat:=(ej s).foldl (λo p=>if decide (p.toNat/2^i%2=1)==one then mT o p else o) 0
def dW (s t:Nat):Bool:=decide (wd (andNot s t) 0=0∧wd (andNot s t) 1=0∧wd (andNot s t) 2=0∧wd (andNot s t) 3=0)
theorem SQ (i:Nat):wd 0 i=0:=by simp[wd]
theorem Hx:wd s i=0↔∀j,j<64→s.testBit (64*i+j)=false:=by
 constructor
 ·intro h j hj
  have h2:=iz s i j
  rw[h,acn]at h2
  simpa [hj] using h2.symm
 ·intro h
  refine kT (by decide) λj hj=> ?_
  grind
theorem dJ:dW s t=true↔∀p,p<256→s.testBit p=true→t.testBit p=true:=by
 simp only[dW,decide_eq_true_eq,Hx,ee]
 constructor
 ·rintro⟨h0,h1,h2,h3⟩ p hp hs
  have key:∀i,p/64=i→(∀j,j<64→(s.testBit (64*i+j)&& !t.testBit (64*i+j))=false)→t.testBit p=true:=λi e h=>by
   have h5:=h (p%64) (Nat.mod_lt _ (by decide))
   have e2:64*i+p%64=p:=by omega
   rw[e2,hs]at h5
   simpa using h5
  have:p/64=0∨p/64=1∨p/64=2∨p/64=3:=by omega
  rcases this with e|e|e|e
  ·exact key 0 e h0
  ·exact key 1 e h1
  ·exact key 2 e h2
  ·exact key 3 e h3
 all_goals grind
def pg (l:List Int) (i:Nat) (one:Bool) (k:Nat):Nat:=(l.take k).foldl (λo p=>if (decide (p.toNat/2^i%2=1)==one)=true then mT o p else o) 0
theorem xK {one:Bool} (h:k<l.length):
  pg l i one (k+1)=if (decide ((l.getD k 0).toNat/2^i%2=1)==one)=true then mT (pg l i one k) (l.getD k 0)else pg l i one k:=by
 grind [pg,List.take_succ_eq_append_getElem,List.getElem?_eq_getElem]
theorem PZ (s i:Nat) (one:Bool):qX s i one=pg (ej s) i one (ej s).length:=by
 grind [qX,pg,List.take_length]
theorem tA (x:Nat):x &&& 1=x%2:=by grind
theorem Gm (q:Nat):decide (((q%2:Nat):Int)=1)=decide (q%2=1):=by
 grind
def dS (m v:Nat) (n:Int):Bool:=decide (0≤n)&&(decide (n≤8)&&(decide (m<2^n.toNat)&&decide (andNot v m=0)))
def o7 (m v k:Nat):Nat:=
 match k with
 |0=>0
 |k+1=>if k &&& m=v then mT (o7 m v k) (k:Int)else o7 m v k
def rj (m v n:Nat):Nat:=o7 m v (2^n)
def lK (m:Nat) (i:Int):Nat:=if 0≤i∧i<8 then andNot m (2^i.toNat)else m
theorem mF {s k:Nat} (h:k<256) (p:Nat):(mT s (k:Int)).testBit p=(decide (p=k)||s.testBit p):=by
 have hm:oF (k:Int)=true:=by simp[oF];omega
 have e:decide (k=p)=decide (p=k):=by rw[acb];simp;omega
 simp only[mT,hm,if_true,my,acq,ab5,e]
 grind
theorem Bl {m v:Nat}:∀(k:Nat),k≤256→∀p,(o7 m v k).testBit p=(decide (p<k)&&decide (p &&& m=v)):=by
 intro k
 induction k with
 |zero=>intro _ p;simp[o7]
 |succ k ih=>
  intro hk p
  have ih':=ih (by omega) p
  simp only[o7]
  split
  ·rename_i h
   rw[mF (by omega),ih']
   by_cases e:p=k
   ·subst e;simp[h]
   ·simp only[e,decide_false,Bool.false_or]
    congr 1
    rw[acb]
    simp
    omega
  ·rename_i h
   rw[ih']
   by_cases e:p=k
   ·subst e;simp[h]
   ·congr 1
    rw[acb]
    simp
    omega
theorem fm {n:Int} (h:n≤8):2^n.toNat≤256:=by
 have:2^n.toNat≤2^8:=aaV (by decide) (by omega)
 simpa using this
theorem kg {m v n:Nat} (h:n≤8) (p:Nat):(rj m v n).testBit p=(decide (p<2^n)&&decide (p &&& m=v)):=
 Bl _ (by have:=fm (n:=(n:Int)) (by omega);simpa using this) p
end
section
open Go Go.RowKit Go.ChangeShapes Go.WideShapes Go.ChangeAt Go.Joins
section
variable {H:Type} {enc:TypeId×Value→H} {P:Program} {W W':World}
theorem tU (hl:laidOutB P=true) (hE:dA W W') (sp:Nat→Bool):∀{ts:List TypeId} {vs:List Value} {ds:List (DataW H)} {ps:List MemPlace},(ts.all λt=>P.readableRec t&&decide (t<P.types.size))=true→
  DataW.TrodAll enc P W 0 (λ_=>true) true ts vs ds ps→(∀p∈ps,p.block<W.heap.size)→(∀p∈ps,sp p.block=true)→DataW.TrodAll enc P W' 0 sp true ts vs ds ps
 |[],[],[],_,_,h,_,_=>h
 |t::ts,vs,ds,ps,ht,h,hlt,hsp=>by
  obtain⟨v,vs',d,ds',p,q,rfl,rfl,rfl,h1,h2⟩:=trodAll_cons h
  simp only[acL,so,decide_eq_true_eq]at ht
  refine trodAll_cons_mk (WideElems.Trod_stays hl ht.1.1 ht.1.2 h1 (λx hx=>Below.same hE (hlt x (by simp[hx]))) (λx hx=>hsp x (by simp[hx]))) ?_
  exact tU hl hE sp ht.2 h2 (λx hx=>hlt x (by simp[hx])) (λx hx=>hsp x (by simp[hx]))
 |[],[],_::_,_,_,h,_,_=>h.elim
 |[],_::_,_,_,_,h,_,_=>by cases h
theorem O1 {f:Func} {s:ChangeSpec} {apart fresh handsOn vz:Bool} {args:Array Value} {ds gs:List (DataW H)} {before:List MemPlace} {t:TypeId}
  (hl:laidOutB P=true) (hW:DataW.Whole enc P f.params.toList s.vars apart W args.toList ds gs before) (hvs:s.vars=[]) (hE:dA W W') (hts:(f.params.toList.all λt=>P.readableRec t&&decide (t<P.types.size))=true)
  (hrt:f.resultTypes= #[t]) (htb:P.underlying t=some .bool) (hr:(s.fn H (ds++gs)).results=[.lit (.bool true)]) (ha:(s.fn H (ds++gs)).args=ds) (hv:(s.fn H (ds++gs)).vars=[]):
  s.post enc P f apart fresh handsOn vz W args (.bool true) W':=by
 have hlt:=hW.lt
 have hW':=hW
 obtain⟨p,q,hA,hV,rfl,hz,hn⟩:=hW
 rw[hvs]at hV
 obtain⟨rfl,rfl⟩:=trodVars_none hV
 have hargs:∀sp:Nat→Bool,(∀x∈p++[],sp x.block=true)→DataW.TrodAll enc P W' 0 sp true f.params.toList args.toList (s.fn H (ds++[])).args p:=λsp hsp=>by
  rw[ha]
  exact tU hl hE sp hts hA (λx hx=>hlt x (by simp[hx])) (λx hx=>hsp x (by simp[hx]))
 have hres:∀(b:Nat) (sp:Nat→Bool) (hd:Bool),DataW.TrodAll enc P W' b sp hd f.resultTypes.toList ((Value.bool true).resultList f.resultTypes.size) (s.fn H (ds++[])).results []:=λb sp hd=>by
  rw[hr,hrt]
  exact trodAll_mk1 (shut_bool htb true)
 have hvars:∀sp:Nat→Bool,DataW.TrodVars enc P W' sp s.vars (s.fn H (ds++[])).vars []:=λsp=>by
  rw[hv,hvs];rfl
 have hold:∀x∈p++[],(λb=>decide (b<W.heap.size)) x.block=true:=λx hx=>by simpa using hlt x hx
 refine⟨ds,[],p++[],[],p,[],hW',hres _ _ _,hargs _ hold,hvars _,World.keptBut_mono (λx hx=>⟨hx,?_⟩) (Below.frame hE (·∈p++[])),λ_=> ?_⟩
 ·simpa using hx
 ·refine⟨ok_one hrt rfl (okWide_bool_mk htb true),_,_,([]++p)++[],⟨[]++p,[],trodAll_append (hargs _ (λ_ _=>rfl)) (hres _ _ _),hvars _,rfl,?_,?_⟩,?_⟩
  ·intro b off hp
   have hm:MemPlace.cell b off∈p++[]:=by simpa using hp
   rw[Below.frozen hE (p:=⟨b,off,none⟩) (hlt _ hm)]
   exact hz b off hm
  ·intro ha
   have:=hn ha
   simpa using this
  ·intro x hx _
   simpa using hx
end
end
section
def inN (S:List Nat) (a b:Nat):Bool:=
 match S with
 |c::d::r=>cond (cond (Nat.ble c a) (Nat.ble b d) false) true (inN r a b)
 |_=>false
def Ud (l S:List Nat):Bool:=
 match l with
 |a::b::r=>cond (inN S a b) (Ud r S) false
 |_=>true
theorem Kx:∀(S:List Nat) {a b t:Nat},inN S a b=true→a≤t→t≤b→pd S t=true
 |[],_,_,_,h,_,_=>by cases h
 |[_],_,_,_,h,_,_=>by cases h
 |c::d::r,a,b,t,h,h1,h2=>by
  have ih:=Kx r (a:=a) (b:=b) (t:=t)
  simp only[inN,pd,Bool.cond_eq_ite,Bool.if_true_left,Bool.if_false_right,acr,so,Nat.ble_eq,Bool.decide_eq_true]at h ⊢
  grind
theorem FL:∀(l S:List Nat),Ud l S=true→pd l t=true→pd S t=true
 |[],_,_,h=>by cases h
 |[_],_,_,h=>by cases h
 |a::b::r,S,h,k=>by
  have ih:=FL (t:=t) r S
  have q:=Kx S (a:=a) (b:=b) (t:=t)
  simp only[Ud,pd,Bool.cond_eq_ite,Bool.if_true_left,Bool.if_false_right,acr,so,Nat.ble_eq,Bool.decide_eq_true]at h k
  grind
theorem acU (hs:Ud S' S=true) (k:dC S f h):dC S (Go.Proofs.YtedeonkjellcpaaGreatDoor.mask S' f g) h:=by
 intro t ht
 have hm:pd S' t=false:=by
  cases e:pd S' t with
  |false=>rfl
  |true=>have:=FL S' S hs e;rw[ht]at this;cases this
 simp only[Go.Proofs.YtedeonkjellcpaaGreatDoor.mask,hm,cond_false]
 exact k t ht
theorem adV
  (h:(execOp (dm f) o).run P w= .ok (.enter g vs) w) (hc:lk P g vs w Post) (hK:∀v w',Post v w'→K v w'):Yd P o f w K:=by
 refine⟨λa ha Q=> ?_⟩
 unfold Oper.wp
 rw[ha,h]
 refine Calls.mono hc.out λe w' ⟨v,he,hq⟩=> ?_
 grind
theorem mZ {rest:List Oper}
  (hg:gi ops f o=true) (he:o.dst=dd) (hd:j7 n dd=true) (hr:(execOp (dm f) o).run P w= .ok (.enter g vs) w)
  (hc:lk P g vs w Post) (h:∀v w',Post v w'→WL P n ops Q rest (updo f dd v) w'):WL P n ops Q (o::rest) f w:=by grind [gU,adV]
theorem cB {a b c:World} {row:Option Nat} (h:a.grownBy b row) (k:b.grownBy c row):a.grownBy c row:=
 ⟨k.os.trans h.os,k.tape.trans h.tape,k.output.trans h.output,go h.size k.size,λi hi hne=>(k.block i (ab0 hi h.size) hne).trans (h.block i hi hne)⟩
theorem d7 (cs:Array Value):(Value.agg cs).cells=cs:=rfl
theorem dT {Q:Nat→Prop} {k:Nat} (h:∀p,p<k→Q p) (hk:Q k):∀p,p<k+1→Q p:=by grind
theorem eO {Q:Nat→Prop}:∀p,p<0→Q p:=by omega
section
variable {P:Program} {f:Nat→Value} {w:World} {d:Option Nat} {ty:TypeId} {ps:String} {af:Array Edge} {g:Option (Nat×Bool)} {x y:Operand}
variable {t:TypeId} {b o:Nat} {v u:Value} {c:Array Value} {T e:TypeId} {K:Value→World→Prop} {n sz by_ N:Nat} {xs ys:List Value}
theorem Oz (hx:dm f x= .int k (n:Int)) (hy:dm f y= .int kk (n:Int)) (hT:fj P t=some (e,sz,by_)) (hz:d4 P e=some z)
  (hby:by_*n≤281474976710656) (hn:n≤maxLen) (hN:N≤w.heap.size)
  (hK:∀v' w',dA w w'→w'.ownsRow N e sz v' n (madeCells z.cells (n*sz)).toList→K v' w'):Yd P ⟨d, .makeSlice t x y,ty,ps,af,g⟩ f w K:=by
 unfold d4 at hz
 obtain⟨i,hi,hzz⟩:=we.1 hz
 unfold fj at hT
 cases hun:P.underlying t with
 |none=>simp[hun]at hT
 |some desc=>
  cases desc<;>simp[hun]at hT
  rename_i e'
  obtain⟨i',hi',rfl,h3,rfl⟩:=hT
  obtain rfl:i'=i:=by rw[hi]at hi';exact(aaK hi').symm
  obtain⟨w',hr,ho,hg⟩:=run_make_full (P:=P) w N t e' i' z sz hun hi hzz h3 k kk n hby hn hN
  refine .val (w':=w') ?_ (hK _ w' (ad7 hg) ho)
  simp[execOp,hx,hy,hr]
theorem AK {α:Type} {enc:α→List Value} (he:∀a,(enc a).length=sz) (a:α) (z:Value) (hz:z.cells.toList=enc a) (hsz:0<sz) (n:Nat):
  (madeCells z.cells (n*sz)).toList=(List.replicate n a).flatMap enc:=by
 have hs:z.cells.size=sz:=by rw[←adt,hz,he]
 refine List.ext_getElem? λj=> ?_
 by_cases hj:j<n*sz
 ·have h1:j/sz<n:=Nat.div_lt_of_lt_mul (by rwa [acW]at hj)
  have h2:j%sz<sz:=Nat.mod_lt _ hsz
  have e1:j=j/sz*sz+j%sz:=by rw[acW];exact(Nat.div_add_mod j sz).symm
  have h3:=z6 he (List.replicate n a) (j/sz) (j%sz) a (by simpa using h1) h2
  rw[←e1]at h3
  have h4:(List.replicate n a).getD (j/sz) a=a:=by simp[h1]
  rw[h3,h4,←hz]
  simp[madeCells,hj,hs,h2]
 ·rw[List.getElem?_eq_none (by simp[size_madeCells];omega),List.getElem?_eq_none (by rw[mI he];simp;omega)]
theorem ad8 {α:Type} {enc:α→List Value} (he:∀a,(enc a).length=sz) (a:α) {z:Value} (hz:z.cells.toList=enc a) (hsz:0<sz) (h:w.ownsRow N e sz v n (madeCells z.cells (n*sz)).toList):
  cH enc sz e w N v (List.replicate n a):=by
 grind [cH,List.length_replicate,AK]
theorem vV {α:Type} {enc:α→List Value} (he:∀a,(enc a).length=sz) (a:α):∀(l:List α) (k:Nat),k<l.length→
  (l.set k a).flatMap enc=(l.flatMap enc).take (k*sz)++enc a++(l.flatMap enc).drop (k*sz+sz)
 |[],k,h=>by simp at h
 |b::l,0,_=>by
  simp only[List.set_cons_zero,ach,acV,List.take_zero,aco,acA]
  rw[List.drop_append_of_le_length (by rw[he];exact am _),List.drop_of_length_le (by rw[he];exact am _),aco]
 |b::l,k+1,h=>by
  have ih:=vV he a l k (by simpa using h)
  have e1:(k+1)*sz=(enc b).length+k*sz:=by rw[he,act];omega
  simp only[List.set_cons_succ,ach,ih,e1]
  rw[List.take_length_add_append,show (enc b).length+k*sz+sz=(enc b).length+(k*sz+sz) from by omega,List.drop_length_add_append]
  simp only[ab7]
theorem CL {g cap o:Nat} {cur:Array Value} {new:List Value} (hl:xs.length=n*sz) (hg:N≤g) (hh:w.heap[g]? =some (.cells cur e (0,0))) (hnc:n≤cap) (hcm:cap≤maxLen) (hcs:cur.size=cap*sz) (ht:cur.toList.take (n*sz)=xs)
  (ho:o+new.length≤n*sz):
  (w.setRow g (cur.toList.take o++new++cur.toList.drop (o+new.length)).toArray).ownsRow N e sz (.slice (some ⟨g,0,none⟩) n cap) n (xs.take o++new++xs.drop (o+new.length)):=by
 have hle:n*sz≤cap*sz:=ab6 _ hnc
 refine⟨by simp;omega, .inr ⟨g,cap,_,rfl,hg,setRow_heap w g cur _ e (0,0) hh,hnc,hcm,by simp;omega,?_⟩⟩
 subst ht
 refine List.ext_getElem? λj=> ?_
 grind
theorem vX {α:Type} {enc:α→List Value} {a:α} {l:List α} {j:Int} (hx:dm f x= .pointer (some ⟨Bx v,Gk v+j.toNat*sz,none⟩)) (hy:dm f y=u) (hT:(eN P t=true∧sz=1)∨kn P t=some sz) (he:∀a,(enc a).length=sz)
  (hu:u.cells.toList=enc a) (h1:u.cells.toList.all Value.oneCell'=true) (ho:cH enc sz e w N v l) (h0:0≤j) (hj:j<l.length)
  (hK:∀w',w.grownBy w' v.ownBlock→cH enc sz e w' N v (l.set j.toNat a)→K undef w'):Yd P ⟨d, .store t x y,ty,ps,af,g⟩ f w K:=by
 obtain⟨hl,hor⟩:=ho
 rcases hor with ⟨_,h⟩|⟨q,cap,cur,rfl,hg,hh,hnc,hcm,hcs,ht⟩
 ·omega
 have hul:u.cells.toList.length=sz:=by rw[hu,he]
 have hle:l.length*sz≤cap*sz:=ab6 _ hnc
 have hjs:j.toNat*sz+sz≤l.length*sz:=by rw[←Nat.succ_mul];exact ab6 _ (by omega)
 have hst:=run_storeCells_at P q (j.toNat*sz) e u.cells.toList 0 cur w hh (by rw[hul];omega) (λv h=>aa1.1 h1 v h)
 rw[ac7]at hst
 have hw:=CL (N:=N) (e:=e) (o:=j.toNat*sz) (new:=u.cells.toList) hl hg hh hnc hcm hcs ht (by rw[hul];exact hjs)
 have hgr:∀r,w.grownBy (w.setRow q r) (some q):=λr=>⟨rfl,rfl,rfl,by simp,λk _ hk=>setRow_other w q k r (λe=>hk DG)⟩
 refine .skip (w':=w.setRow q (cur.toList.take (j.toNat*sz)++u.cells.toList++cur.toList.drop (j.toNat*sz+u.cells.toList.length)).toArray) ?_ (hK _ (hgr _) ?_)
 ·have hcs2:(storeVar t ⟨q,j.toNat*sz,none⟩ u).run P w= .ok () (w.setRow q (cur.toList.take (j.toNat*sz)++u.cells.toList++cur.toList.drop (j.toNat*sz+u.cells.toList.length)).toArray):=by
   have hus:u.cells.size=sz:=by simpa using hul
   rcases hT with ⟨hT,h1⟩|hT
   ·have h2:=congrFun (nx hT).2 w
    rw[h1]at hus
    simp[storeVar,h2,hst,hus]
   ·have h2:=congrFun (mB hT).2 w
    simp[storeVar,h2,hst,hus]
  have hx':dm f x= .pointer (some ⟨q,j.toNat*sz,none⟩):=by rw[hx];simp[Bx,Gk]
  simp[execOp,hx',hy,Instr.storeAt,Instr.sureAddr,hcs2]
 all_goals grind [cH,List.length_set,vV]
end
theorem yi {α:Type} {enc:α→List Value} (h:∀a,(enc a).all Value.oneCell'=true) (l:List α):(l.flatMap enc).all Value.oneCell'=true:=by
 grind
theorem lE {l:List Int}:(l.flatMap dX).all Value.oneCell'=true:=yi (λ_=>rfl) l
theorem qi {l:List Cb}:(l.flatMap iI).all Value.oneCell'=true:=yi (λ_=>rfl) l
theorem lC {l:List Rw}:(l.flatMap gz).all Value.oneCell'=true:=yi (λ_=>rfl) l
section
variable {α:Type} {enc:α→List Value} {sz:Nat} {T:TypeId} {w w':World} {N b:Nat} {v:Value} {l:List α}
theorem acm (k:cH enc sz T w N v l) (hb:w.heap.size≤b):v.ownBlock≠some b:=λe=>by
 have:=(World.ownsRow.lt k b e).2
 omega
theorem ab3 (k:cH enc sz T w N v l) (hne:v.ownBlock≠some b) (hG:w.grownBy w' (some b)):cH enc sz T w' N v l:=World.ownsRow.kept k hG (.inr hne)
theorem ad5 (hm:At w b c T') (hne:v.ownBlock≠some b) (hG:w.grownBy w' v.ownBlock):At w' b c T':=hm.grown hG (λe=>hne e.symm)
end
end
end Go.Proofs.YtedeonkjellcpaaGreatDoor
