/- The core of our own way of walking (no program in it, no conditions): frames as functions, code by its ways out, regions that draw their order by taking what only reads first. One law for each operation of the model that our programs use: what its run comes to. One law for each operation that touche -/
import Derived.WalkKit
import Derived.OrdersHeld
import Derived.Deep.LoopGhost
import Derived.KernelRfl
import Derived.ProofKit
import Derived.OpenShut
import Derived.Laws.IdiomArrays
import Derived.Lib.SmallJoins
import Derived.Deep.Slices
namespace Go.Proofs.YtedeonkjellcpaaGreatDoor
set_option linter.unusedVariables false
set_option linter.unusedSimpArgs false
section
open Go Go.RowKit
abbrev am:= @Nat.le_refl
abbrev my:= @Nat.zero_le
abbrev an:= @Nat.le_trans
abbrev so:= @Int.toNat_natCast
abbrev go:= @Option.map_eq_some_iff
abbrev we:= @Bool.and_eq_true
abbrev me:= @List.getD_eq_getElem?_getD
abbrev An:= @List.length_append
abbrev aae:= @Nat.le_of_eq
abbrev Z6:= @List.mem_append
abbrev th:= @List.getElem?_eq_getElem
abbrev aag:= @List.mem_map
abbrev Z9:= @Option.some.inj
abbrev aap:= @Nat.one_mul
abbrev aad:= @Nat.testBit_and
abbrev Do:= @Option.bind_eq_some_iff
abbrev Z8:= @List.mem_singleton
abbrev aab:= @List.mem_cons_self
abbrev Z7:= @Nat.eq_of_testBit_eq
abbrev aam:= @List.mem_range
abbrev aaj:= @List.all_eq_true
abbrev aak:= @List.length_cons
abbrev aaq:= @List.mem_cons
abbrev aah:= @Bool.eq_false_iff
abbrev aaa:= @Decidable.of_not_not
abbrev aal:= @List.length_take
abbrev aan:= @List.take_length
abbrev aaf:= @Nat.pow_le_pow_right
abbrev aai:= @List.mem_cons_of_mem
abbrev aac:= @Nat.lt_succ_iff_lt_or_eq
abbrev aao:= @Nat.lt_of_lt_of_le
abbrev aax:= @Bool.true_and
abbrev aaz:= @Nat.two_pow_pos
abbrev aas:= @Nat.testBit_two_pow
abbrev aav:= @List.append_assoc
abbrev aaB:= @Bool.and_false
abbrev aaS:= @Nat.mod_lt
abbrev aaA:= @Bool.eq_iff_iff
abbrev aaw:= @Nat.lt_of_le_of_lt
abbrev aaD:= @List.length_map
abbrev aaR:= @Nat.add_mul
abbrev aaJ:= @Bool.false_and
abbrev aaF:= @Nat.zero_testBit
abbrev aay:= @Nat.mul_le_mul_right
abbrev aaE:= @List.flatMap_cons
abbrev aau:= @Int.eq_ofNat_of_zero_le
abbrev aaH:= @List.take_add_one
abbrev aa0:= @Nat.lt_or_ge
abbrev aa1:= @Nat.zero_add
abbrev aar:= @List.eq_nil_of_length_eq_zero
abbrev aaP:= @Nat.testBit_or
abbrev aaM:= @List.nil_append
abbrev aaZ:= @Bool.and_true
abbrev aa3:= @Nat.mul_comm
abbrev aaN:= @List.mem_filter
abbrev aaC:= @List.length_singleton
abbrev aa4:= @Nat.pow_succ
abbrev aaT:= @List.append_nil
abbrev aaU:= @Bool.or_eq_true
abbrev aaO:= @List.any_eq_true
abbrev aaY:= @Nat.div_le_self
abbrev aaG:= @List.length_pos_of_mem
abbrev abb:= @Nat.zero_mul
abbrev aa7:= @List.all_cons
abbrev abB:= @Nat.mul_one
abbrev abl:= @Nat.add_zero
abbrev aaW:= @List.pairwise_cons
abbrev aa5:= @List.length_drop
abbrev abc:= @List.map_cons
abbrev aa8:= @List.length_nil
abbrev aaK:= @List.getElem?_append_left
abbrev aaI:= @List.getElem?_append_right
abbrev aba:= @List.prefix_refl
abbrev abK:= @Nat.sub_zero
abbrev abL:= @List.all_nil
abbrev abh:= @List.map_append
abbrev abm:= @Nat.and_le_right
abbrev abS:= @Bool.or_false
abbrev abn:= @Nat.lt_succ_self
abbrev aa9:= @Nat.add_sub_cancel
abbrev abH:= @Nat.mul_le_mul
abbrev abo:= @Nat.mod_eq_of_lt
abbrev abp:= @List.cons_append
abbrev abw:= @Nat.min_eq_left
abbrev aaV:= @List.getElem?_eq_some_iff
abbrev abM:= @Nat.pow_dvd_pow
abbrev abN:= @List.range_succ
abbrev aa2:= @List.pairwise_iff_getElem
abbrev aaX:= @Array.getD_eq_getD_getElem?
abbrev abO:= @List.foldl_cons
abbrev abD:= @List.filter_cons
abbrev aaL:= @Nat.testBit_eq_decide_div_mod_eq
abbrev abq:= @Bool.false_eq_true
abbrev abg:= @List.map_congr_left
abbrev abX:= @Nat.min_le_right
abbrev abu:= @Bool.and_eq_true_iff
abbrev abQ:= @List.length_range
abbrev abY:= @List.mem_flatMap
abbrev abv:= @Nat.pow_lt_pow_right
abbrev abz:= @List.length_pos_iff
abbrev abI:= @List.filter_append
abbrev abe:= @List.take_of_length_le
abbrev abA:= @List.mem_map_of_mem
abbrev abR:= @List.getElem?_map
abbrev abf:= @Nat.testBit_lt_two_pow
abbrev abJ:= @List.length_filter_le
abbrev abr:= @List.length_erase_of_mem
abbrev abV:= @List.getElem_of_mem
abbrev ab0:= @List.getElem?_take
abbrev abW:= @Array.length_toList
abbrev abP:= @List.pairwise_append
abbrev abd:= @Array.getElem?_setIfInBounds_ne
abbrev ab3:= @Nat.le_of_ble_eq_true
abbrev abx:= @Nat.two_pow_add_eq_or_of_lt
abbrev abj:= @Nat.and_two_pow_sub_one_eq_mod
abbrev abC:= @Array.getElem?_eq_some_iff
abbrev abT:= @List.take_append_of_le_length
abbrev abE:= @List.take_succ_eq_append_getElem
abbrev ab1:= @Nat.testBit_two_pow_sub_one
theorem n4 {N:Nat} {a b:World} {p:Prop} (h:Below N a b) (k:a.heap.size≤b.heap.size→p:=by intro h;omega):p:=k (Below.size h)
theorem E8 {p:Prop} (h:p:=by simp only[An,aak,aa8];omega):p:=h
theorem Gb {p:Prop} (h:p:=by simp only[List.map_toArray,abc,List.map_nil,List.append_toArray,aaM,abp];rfl):p:=h
theorem Ou {p:Prop} (h:p:=by (simp only[La,nJ,Le,zI];omega)):p:=h
theorem Ga {p:Prop} (h:p:=by simp only[List.map_toArray,abc,List.map_nil];rfl):p:=h
theorem gj {p:Prop} (h:p:=by simp):p:=h
theorem jW {p:Prop} (h:p:=by kernel_rfl):p:=h
theorem Te {p:Prop} (h:p:=by (simp only[E4,l9,pL,SE];omega)):p:=h
theorem m5 {p:Prop} (h:p:=by assumption):p:=h
theorem iq {p:Prop} (h:p:=by simp;omega):p:=h
theorem tB {p:Prop} (h:p:=by exact Vg _ _ (by simp only[H8];omega)):p:=h
theorem yR {p:Prop} (h:p:=by simp only[ip,so,aap];omega):p:=h
theorem oG {p:Prop} (h:p:=by simp only[ip];omega):p:=h
theorem tk {p:Prop} (h:p:=by (simp only[ip];omega)):p:=h
theorem Km {p:Prop} (h:p:=by rw[Bn,aal];omega):p:=h
theorem XD {p:Prop} (h:p:=by simp only[H8];omega):p:=h
theorem Vk {p:Prop} (h:p:=by simp only[An,aak,aa8,k9];omega):p:=h
theorem D5 {p:Prop} (h:p:=by exact ab3 rfl):p:=h
theorem GW {p:Prop} (h:p:=by rw[aal];omega):p:=h
theorem WA {p:Prop} (h:p:=by rw[e];exact aab):p:=h
theorem zX {p:Prop} (h:p:=by (simp;omega)):p:=h
theorem SH {p:Prop} (h:p:=by (simp only[o7,zl];omega)):p:=h
theorem PX {p:Prop} (h:p:=by simp only[aap]at*;omega):p:=h
theorem Yk {p:Prop} (h:p:=by show 256-(k+1)<256-k;omega):p:=h
theorem LK {p:Prop} (h:p:=by exact Nat.zero_lt_one):p:=h
theorem vu {p:Prop} (h:p:=by rw[e]):p:=h
theorem T6 {p:Prop} (h:p:=by simp only[ip,so];omega):p:=h
theorem Wb {p:Prop} (h:p:=by rw[aap];simp only[ip];omega):p:=h
theorem QG {p:Prop} (h:p:=by simp only[l9];omega):p:=h
structure Dv (n:Nat) (f:Nat→Value) (a:Act):Prop where
 defers:a.defers=[]
 size:a.tmps.size=n
 get:∀t,a.tmps.getD t undef=f t
def upd (f:Nat→Value) (d:Nat) (v:Value):Nat→Value:=λt=>cond (Nat.beq t d) v (f t)
def updo (f:Nat→Value) (d:Option Nat) (v:Value):Nat→Value:=
 match d with
 |none=>f
 |some d=>upd f d v
def jM (n:Nat) (d:Option Nat):Bool:=
 match d with
 |none=>true
 |some d=>decide (d<n)
def dg (f:Nat→Value) (x:Operand):Value:=
 match x with
 | .tmp t=>f t
 | .const v=>v
 | .global g=> .pointer (some ⟨g,0,none⟩)
 | .func k=> .func (.func k) #[] #[]
theorem zw (f:Nat→Value) (d:Nat) (v:Value):upd f d v d=v:=by simp[upd]
theorem Dt (f:Nat→Value) {d t:Nat} (v:Value) (h:t≠d):upd f d v t=f t:=by
 have e:Nat.beq t d=false:=by cases hb:Nat.beq t d with|false=>rfl|true=>exact absurd (Nat.eq_of_beq_eq_true hb) h
 simp only[upd,e,cond_false]
theorem Dv.eval {n:Nat} {f:Nat→Value} {a:Act} (h:Dv n f a):a.eval=dg f:=by
 funext x
 cases x<;>simp only[Act.eval,dg,h.get]
theorem Dv.put {n:Nat} {f:Nat→Value} {a:Act} (h:Dv n f a) {d:Option Nat} (hd:jM n d=true) (v:Value):Dv n (updo f d v) (a.put d v):=by
 cases d with
 |none=>exact h
 |some d=>
  have hlt:d<n:=by simpa [jM] using hd
  refine⟨h.defers,by simp[Act.put,h.size],λt=> ?_⟩
  have hg:=h.get t
  simp only[Act.put,updo]
  by_cases e:t=d
  ·subst e
   rw[zw]
   simp[h.size,hlt]
  ·rw[Dt _ _ e,←hg]
   simp[abd (Ne.symm e)]
def GJ (ops:Array Oper) (f:Nat→Value) (j:Nat):Option Bool:=
 match (ops[j]?).bind (·.dst)with
 |none=>none
 |some d=>match f d with
  | .bool b=>some b
  |_=>none
theorem Dv.yielded {n:Nat} {f:Nat→Value} {a:Act} (h:Dv n f a) (ops:Array Oper) (j:Nat):yielded ops a.tmps j=GJ ops f j:=by
 unfold Go.yielded GJ
 cases hd:(ops[j]?).bind (·.dst)with
 |none=>simp
 |some d=>
  have hg:=h.get d
  simp only[Option.bind_some]
  cases ht:a.tmps[d]? with
  |none=>simp[ht]at hg;rw[←hg];rfl
  |some v=>
   simp[ht]at hg
   rw[←hg]
   cases v<;>rfl
def fW (ops:Array Oper) (f:Nat→Value) (o:Oper):Bool:=
 match o.guard with
 |none=>true
 |some (j,want)=>GJ ops f j==some want
theorem Dv.wanted {n:Nat} {f:Nat→Value} {a:Act} (h:Dv n f a) (ops:Array Oper) (o:Oper):Region.wanted o (Go.yielded ops a.tmps)=fW ops f o:=by
 unfold Region.wanted fW
 cases o.guard with
 |none=>rfl
 |some g=>simp only[h.yielded]
def dz (w w':World):Prop:=Below w.heap.size w w'
theorem dz.refl (w:World):dz w w:=Below.refl _ _
theorem dz.size {w w':World} (h:dz w w'):w.heap.size≤w'.heap.size:=Below.size h
theorem dz.trans {a b c:World} (h:dz a b) (k:dz b c):dz a c:=Below.trans h (Below.mono k (Below.size h))
class Kp (w w':World) (p:Prop) (q:outParam Prop):Prop where
 k:dz w w'→p→q
theorem dz.k2 {w w':World} {p1 q1 p2 q2:Prop} [Kp w w' p1 q1] [Kp w w' p2 q2] (h:dz w w') (a1:p1) (a2:p2):q1∧q2:=⟨Kp.k h a1,Kp.k h a2⟩
theorem dz.k3 {w w':World} {p1 q1 p2 q2 p3 q3:Prop} [Kp w w' p1 q1] [Kp w w' p2 q2] [Kp w w' p3 q3] (h:dz w w') (a1:p1) (a2:p2) (a3:p3):q1∧q2∧q3:=⟨Kp.k h a1,Kp.k h a2,Kp.k h a3⟩
theorem dz.k4 {w w':World} {p1 q1 p2 q2 p3 q3 p4 q4:Prop} [Kp w w' p1 q1] [Kp w w' p2 q2] [Kp w w' p3 q3] [Kp w w' p4 q4] (h:dz w w') (a1:p1) (a2:p2) (a3:p3) (a4:p4):q1∧q2∧q3∧q4:=⟨Kp.k h a1,Kp.k h a2,Kp.k h a3,Kp.k h a4⟩
theorem dz.k5 {w w':World} {p1 q1 p2 q2 p3 q3 p4 q4 p5 q5:Prop} [Kp w w' p1 q1] [Kp w w' p2 q2] [Kp w w' p3 q3] [Kp w w' p4 q4] [Kp w w' p5 q5] (h:dz w w') (a1:p1) (a2:p2) (a3:p3) (a4:p4) (a5:p5):q1∧q2∧q3∧q4∧q5:=⟨Kp.k h a1,Kp.k h a2,Kp.k h a3,Kp.k h a4,Kp.k h a5⟩
theorem dz.k6 {w w':World} {p1 q1 p2 q2 p3 q3 p4 q4 p5 q5 p6 q6:Prop} [Kp w w' p1 q1] [Kp w w' p2 q2] [Kp w w' p3 q3] [Kp w w' p4 q4] [Kp w w' p5 q5] [Kp w w' p6 q6] (h:dz w w') (a1:p1) (a2:p2) (a3:p3) (a4:p4) (a5:p5) (a6:p6):q1∧q2∧q3∧q4∧q5∧q6:=⟨Kp.k h a1,Kp.k h a2,Kp.k h a3,Kp.k h a4,Kp.k h a5,Kp.k h a6⟩
theorem dz.k7 {w w':World} {p1 q1 p2 q2 p3 q3 p4 q4 p5 q5 p6 q6 p7 q7:Prop} [Kp w w' p1 q1] [Kp w w' p2 q2] [Kp w w' p3 q3] [Kp w w' p4 q4] [Kp w w' p5 q5] [Kp w w' p6 q6] [Kp w w' p7 q7] (h:dz w w') (a1:p1) (a2:p2) (a3:p3) (a4:p4) (a5:p5) (a6:p6) (a7:p7):q1∧q2∧q3∧q4∧q5∧q6∧q7:=⟨Kp.k h a1,Kp.k h a2,Kp.k h a3,Kp.k h a4,Kp.k h a5,Kp.k h a6,Kp.k h a7⟩
theorem dz.k8 {w w':World} {p1 q1 p2 q2 p3 q3 p4 q4 p5 q5 p6 q6 p7 q7 p8 q8:Prop} [Kp w w' p1 q1] [Kp w w' p2 q2] [Kp w w' p3 q3] [Kp w w' p4 q4] [Kp w w' p5 q5] [Kp w w' p6 q6] [Kp w w' p7 q7] [Kp w w' p8 q8] (h:dz w w') (a1:p1) (a2:p2) (a3:p3) (a4:p4) (a5:p5) (a6:p6) (a7:p7) (a8:p8):q1∧q2∧q3∧q4∧q5∧q6∧q7∧q8:=⟨Kp.k h a1,Kp.k h a2,Kp.k h a3,Kp.k h a4,Kp.k h a5,Kp.k h a6,Kp.k h a7,Kp.k h a8⟩
theorem dz.k10 {w w':World} {p1 q1 p2 q2 p3 q3 p4 q4 p5 q5 p6 q6 p7 q7 p8 q8 p9 q9 p10 q10:Prop} [Kp w w' p1 q1] [Kp w w' p2 q2] [Kp w w' p3 q3] [Kp w w' p4 q4] [Kp w w' p5 q5] [Kp w w' p6 q6] [Kp w w' p7 q7] [Kp w w' p8 q8] [Kp w w' p9 q9] [Kp w w' p10 q10] (h:dz w w') (a1:p1) (a2:p2) (a3:p3) (a4:p4) (a5:p5) (a6:p6) (a7:p7) (a8:p8) (a9:p9) (a10:p10):q1∧q2∧q3∧q4∧q5∧q6∧q7∧q8∧q9∧q10:=⟨Kp.k h a1,Kp.k h a2,Kp.k h a3,Kp.k h a4,Kp.k h a5,Kp.k h a6,Kp.k h a7,Kp.k h a8,Kp.k h a9,Kp.k h a10⟩
theorem dz.k11 {w w':World} {p1 q1 p2 q2 p3 q3 p4 q4 p5 q5 p6 q6 p7 q7 p8 q8 p9 q9 p10 q10 p11 q11:Prop} [Kp w w' p1 q1] [Kp w w' p2 q2] [Kp w w' p3 q3] [Kp w w' p4 q4] [Kp w w' p5 q5] [Kp w w' p6 q6] [Kp w w' p7 q7] [Kp w w' p8 q8] [Kp w w' p9 q9] [Kp w w' p10 q10] [Kp w w' p11 q11] (h:dz w w') (a1:p1) (a2:p2) (a3:p3) (a4:p4) (a5:p5) (a6:p6) (a7:p7) (a8:p8) (a9:p9) (a10:p10) (a11:p11):q1∧q2∧q3∧q4∧q5∧q6∧q7∧q8∧q9∧q10∧q11:=⟨Kp.k h a1,Kp.k h a2,Kp.k h a3,Kp.k h a4,Kp.k h a5,Kp.k h a6,Kp.k h a7,Kp.k h a8,Kp.k h a9,Kp.k h a10,Kp.k h a11⟩
theorem dz.k12 {w w':World} {p1 q1 p2 q2 p3 q3 p4 q4 p5 q5 p6 q6 p7 q7 p8 q8 p9 q9 p10 q10 p11 q11 p12 q12:Prop} [Kp w w' p1 q1] [Kp w w' p2 q2] [Kp w w' p3 q3] [Kp w w' p4 q4] [Kp w w' p5 q5] [Kp w w' p6 q6] [Kp w w' p7 q7] [Kp w w' p8 q8] [Kp w w' p9 q9] [Kp w w' p10 q10] [Kp w w' p11 q11] [Kp w w' p12 q12] (h:dz w w') (a1:p1) (a2:p2) (a3:p3) (a4:p4) (a5:p5) (a6:p6) (a7:p7) (a8:p8) (a9:p9) (a10:p10) (a11:p11) (a12:p12):q1∧q2∧q3∧q4∧q5∧q6∧q7∧q8∧q9∧q10∧q11∧q12:=⟨Kp.k h a1,Kp.k h a2,Kp.k h a3,Kp.k h a4,Kp.k h a5,Kp.k h a6,Kp.k h a7,Kp.k h a8,Kp.k h a9,Kp.k h a10,Kp.k h a11,Kp.k h a12⟩
theorem dz.block {w w':World} (h:dz w w') {b:Nat} {o:Obj} (hb:w.heap[b]? =some o):w'.heap[b]? =some o:=by
 rw[Below.block h b (abC.1 hb).1];exact hb
theorem gf {w:World} {b:Nat} {o:Obj} (hb:w.heap[b]? =some o):b<w.heap.size:=(abC.1 hb).1
theorem act (w:World) (k:Nat):dz w {w with drawn:=k}:=⟨rfl,rfl,rfl,am _,λ_ _=>rfl⟩
theorem dz.alloc (w:World) (o:Obj):dz w (w.alloc o):=(Below.refl w.heap.size w).alloc (am _) o
theorem cW {N:Nat} {a b c:World} (h:Below N a b) (k:dz b c) (hN:N≤a.heap.size):Below N a c:=Below.trans h (Below.mono k (an hN (Below.size h)))
structure Fn (P:Program) (g:Nat) (vs:Array Value) (w:World) (Post:Value→World→Prop):Prop where
 out:Calls P g vs w λe w'=>∃v,e= .returned v∧dz w w'∧Post v w'
theorem Fn.mono {P:Program} {g:Nat} {vs:Array Value} {w:World} {Post Post':Value→World→Prop} (h:Fn P g vs w Post) (hp:∀v w',dz w w'→Post v w'→Post' v w'):Fn P g vs w Post':=
 ⟨Calls.mono h.out λ_ _ ⟨v,he,hx,hq⟩=>⟨v,he,hx,hp _ _ hx hq⟩⟩
structure Yd (P:Program) (o:Oper) (f:Nat→Value) (w:World) (K:Value→World→Prop):Prop where
 out:∀a:Act,a.eval=dg f→∀Q,o.wp P a w (λa' w'=>∃v,a'=a.put o.dst v∧K v w') Q
theorem Yd.val {P:Program} {o:Oper} {f:Nat→Value} {w w':World} {v:Value} {K:Value→World→Prop}
  (h:(execOp (dg f) o).run P w= .ok (.value v) w') (hK:K v w'):Yd P o f w K:=by
 refine⟨λa ha Q=> ?_⟩
 unfold Oper.wp
 rw[ha,h]
 exact⟨v,rfl,hK⟩
theorem Yd.skip {P:Program} {o:Oper} {f:Nat→Value} {w w':World} {K:Value→World→Prop}
  (h:(execOp (dg f) o).run P w= .ok .skip w') (hK:K undef w'):Yd P o f w K:=by
 refine⟨λa ha Q=> ?_⟩
 unfold Oper.wp
 rw[ha,h]
 exact⟨undef,rfl,hK⟩
theorem Yd.call {P:Program} {o:Oper} {f:Nat→Value} {w:World} {g:Nat} {vs:Array Value} {K Post:Value→World→Prop}
  (h:(execOp (dg f) o).run P w= .ok (.enter g vs) w) (hc:Fn P g vs w Post) (hK:∀v w',dz w w'→Post v w'→K v w'):Yd P o f w K:=by
 refine⟨λa ha Q=> ?_⟩
 unfold Oper.wp
 rw[ha,h]
 refine Calls.mono hc.out λe w' ⟨v,he,hx,hq⟩=> ?_
 subst he
 exact⟨v,rfl,hK v w' hx hq⟩
theorem Yd.mono {P:Program} {o:Oper} {f:Nat→Value} {w:World} {K K':Value→World→Prop} (h:Yd P o f w K) (hk:∀v w',K v w'→K' v w'):Yd P o f w K':=⟨λa ha Q=>Oper.wp_mono (λ_ _ ⟨v,e,k⟩=>⟨v,e,hk _ _ k⟩) (h.out a ha Q)⟩
section
variable (P:Program) (n:Nat) (ops:Array Oper) (Q:(Nat→Value)→World→Prop)
def OH (n:Nat) (Q:(Nat→Value)→World→Prop):Exit→Act→World→Prop:=
 λe a w=>e= .normal∧∃f,Dv n f a∧Q f w
structure WL (l:List Oper) (f:Nat→Value) (w:World):Prop where
 out:∀a,Dv n f a→wpList P ops (OH n Q) l a w
end
section
variable {P:Program} {n:Nat} {ops:Array Oper} {Q:(Nat→Value)→World→Prop} {f:Nat→Value} {w:World} {o:Oper} {rest:List Oper}
theorem ct (h:Q f w):WL P n ops Q [] f w:=⟨λ_ ha=>⟨rfl,f,ha,h⟩⟩
theorem gK {dd:Option Nat} (hg:fW ops f o=true) (he:o.dst=dd) (hd:jM n dd=true) (h:Yd P o f w λv w'=>WL P n ops Q rest (updo f dd v) w'):WL P n ops Q (o::rest) f w:=by
 subst he
 refine⟨λa ha=> ?_⟩
 unfold wpList
 rw[ha.wanted,if_pos hg]
 refine .inl (Oper.wp_mono (λa' w' ⟨v,e,k⟩=> ?_) (h.out a ha.eval (OH n Q)))
 subst e
 exact k.out _ (ha.put hd v)
theorem SN {dd:Option Nat} (hg:fW ops f o=false) (he:o.dst=dd) (hd:jM n dd=true) (h:WL P n ops Q rest (updo f dd undef) w):WL P n ops Q (o::rest) f w:=by
 subst he
 refine⟨λa ha=> ?_⟩
 unfold wpList
 rw[ha.wanted,if_neg (by simp[hg])]
 exact h.out _ (ha.put hd undef)
theorem Hu {dd:Option Nat} {v:Value} {w':World} (hg:fW ops f o=true) (he:o.dst=dd) (hd:jM n dd=true) (hr:(execOp (dg f) o).run P w= .ok (.value v) w')
  (h:WL P n ops Q rest (updo f dd v) w'):WL P n ops Q (o::rest) f w:=gK hg he hd (.val hr h)
theorem ol {dd:Option Nat} {g:Nat} {vs:Array Value} {Post:Value→World→Prop} (hg:fW ops f o=true) (he:o.dst=dd) (hd:jM n dd=true) (hr:(execOp (dg f) o).run P w= .ok (.enter g vs) w)
  (hc:Fn P g vs w Post) (h:∀v w',dz w w'→Post v w'→WL P n ops Q rest (updo f dd v) w'):WL P n ops Q (o::rest) f w:=gK hg he hd (.call hr hc h)
theorem Ny {dd:Option Nat} {b:Bool} (hg:fW ops f o=true) (he:o.dst=dd) (hd:jM n dd=true) (hr:(execOp (dg f) o).run P w= .ok (.value (.bool b)) w)
  (ht:b=true→WL P n ops Q rest (updo f dd (.bool true)) w) (hf:b=false→WL P n ops Q rest (updo f dd (.bool false)) w):WL P n ops Q (o::rest) f w:=by
 cases b
 ·exact Hu hg he hd hr (hf rfl)
 ·exact Hu hg he hd hr (ht rfl)
end
def qZ (ops:Array Oper) (j k:Nat):Bool:=
 match ops[j]? with
 |none=>false
 |some o=>o.after.any λe=>Region.binds .any e&&e.on==k
def B9 (ops:Array Oper):Nat→Nat→Nat→Bool
 |0,j,k=>qZ ops j k
 |n+1,j,k=>qZ ops j k||(List.range ops.size).any λm=>qZ ops j m&&B9 ops n m k
def mg (ops:Array Oper) (listed:Array Bool) (j:Nat):Bool:=
 (List.range ops.size).all λk=> !listed.getD k false||B9 ops 4 j k
theorem zR {ops:Array Oper} {j k:Nat}:qZ ops j k=true↔∃o,ops[j]? =some o∧∃e,e∈o.after∧Region.binds .any e=true∧e.on=k:=by
 unfold qZ
 cases ops[j]? with
 |none=>simp
 |some o=>
  simp only[Option.some.injEq,exists_eq_left']
  rw[Array.any_eq_true']
  exact⟨λ⟨e,h1,h2⟩=>⟨e,h1,by simpa using h2⟩,λ⟨e,h1,h2⟩=>⟨e,h1,by simpa using h2⟩⟩
def m7 (ops:Array Oper) (L:Array Bool):Prop:=∀m k,L.getD m false=true→qZ ops m k=true→L.getD k false=true
theorem rq {L:Array Bool} {j k:Nat}:(L.setIfInBounds j true).getD k false=true↔(k=j∧j<L.size)∨L.getD k false=true:=by
 simp only[aaX,Array.getElem?_setIfInBounds]
 by_cases h:j=k
 ·subst h
  by_cases h2:j<L.size
  ·simp[h2]
  ·simp[h2]
 ·have h3:¬k=j:=λe=>h e.symm
  simp[h,h3]
theorem m7.add {ops:Array Oper} {L:Array Bool} {j:Nat} (h:m7 ops L) (hj:j∈Region.ready .any ops L):m7 ops (L.setIfInBounds j true):=λm k hm hw=>by
 rw[rq]at hm ⊢
 right
 rcases hm with ⟨rfl,_⟩|hm
 ·obtain⟨_,oj,hoj,hall⟩:=mem_ready.1 hj
  obtain⟨o,ho,e,he,hb,rfl⟩:=zR.1 hw
  rw[hoj]at ho
  cases ho
  exact hall e he hb
 ·exact h m k hm hw
theorem m7.none {ops:Array Oper} {n:Nat}:m7 ops (Array.replicate n false):=λm k hm _=>by
 simp[aaX,Array.getElem?_replicate]at hm
 split at hm<;>simp at hm
theorem sF {ops:Array Oper} {L:Array Bool} (hcl:m7 ops L):∀(n j k:Nat),(∀m,qZ ops j m=true→L.getD m false=true)→B9 ops n j k=true→L.getD k false=true
 |0,j,k,hw,h=>hw k h
 |n+1,j,k,hw,h=>by
  rw[B9,aaU,aaO]at h
  rcases h with h|⟨m,_,h⟩
  ·exact hw k h
  ·rw[we]at h
   exact sF hcl n m k (λq hq=>hcl m q (hw m h.1) hq) h.2
def XR (P:Program) (ops:Array Oper) (Q:Exit→Act→World→Prop) (S:World→Prop):Nat→Array Bool→Act→World→Prop
 |0,L,a,w=>Region.ready .any ops L=[]∧Q .normal a w
 |k+1,L,a,w=>(Region.ready .any ops L=[]→Q .normal a w)∧
  ∀i∈Region.ready .any ops L,wpOp P ops Q i (λa' w'=>(S w'∨mg ops L i=true)∧XR P ops Q S k (L.setIfInBounds i true) a' w') a w
section
variable {P:Program} {ops:Array Oper} {Q:Exit→Act→World→Prop} {S:World→Prop}
theorem zC:∀(k:Nat) (L:Array Bool) (a:Act) (w:World),XR P ops Q S k L a w→wpAny P .any ops Q k L a w
 |0,_,_,_,h=>h
 |k+1,_,_,_,h=>⟨h.1,λi hi=>wpOp_mono (λa' w' h'=>zC k _ a' w' h'.2) (h.2 i hi)⟩
theorem A5 {i:Nat} {oi:Oper} {v:Value} (hi:ops[i]? =some oi) (hsel:∀(j:Nat) (o:Oper) cs b,ops[j]? =some o→o.op≠ .select cs b)
  (hQ:∀c a w,Q (.panic c) (a.put oi.dst v) w→Q (.panic c) a w):
  ∀(k:Nat) (L:Array Bool) (a:Act) (w:World),L.size=ops.size→
   (∀j oj,ops[j]? =some oj→j≠i→L.getD j true=false→(∀e∈oj.after,Region.binds .any e=true→e.on≠i)→oi.apart ops oj=true)→
   i∈Region.ready .any ops L→m7 ops L→YieldsIf P ops S oi v a→S w→
   XR P ops Q S k (L.setIfInBounds i true) (a.put oi.dst v) w→XR P ops Q S (k+1) L a w:=by
 intro k
 induction k with
 |zero=>
  intro L a w hsz hfree hr hcl hy hS H
  refine⟨λh=>(by rw[h]at hr;cases hr),λj hj=> ?_⟩
  by_cases hji:j=i
  ·subst hji
   exact hy.wpOp hi hS ⟨.inl hS,H⟩
  ·have:=ready_mono hj hji
   rw[H.1]at this
   cases this
 |succ k ih=>
  intro L a w hsz hfree hr hcl hy hS H
  refine⟨λh=>(by rw[h]at hr;cases hr),λj hj=> ?_⟩
  by_cases hji:j=i
  ·subst hji
   exact hy.wpOp hi hS ⟨.inl hS,H⟩
  ·have h1:=H.2 j (ready_mono hj hji)
   obtain⟨hjun,oj,hoj,hall⟩:=mem_ready.1 hj
   have hiL:L.getD i true=false:=(mem_ready.1 hr).1
   have hilt:i<ops.size:=(abC.1 hi).1
   have hnot:∀e∈oj.after,Region.binds .any e=true→e.on≠i:=λe he hb heq=>by
    have h2:=hall e he hb
    rw[heq]at h2
    have hlt:i<L.size:=by omega
    simp[hlt]at hiL h2
    rw[hiL]at h2
    cases h2
   have hnf:mg ops (L.setIfInBounds i true) j=false:=by
    cases hfb:mg ops (L.setIfInBounds i true) j with
    |false=>rfl
    |true=>
     simp only[mg,aaj,aam]at hfb
     have h3:=hfb i hilt
     have hlt:i<L.size:=by omega
     have hin:(L.setIfInBounds i true).getD i false=true:=rq.2 (.inl ⟨rfl,hlt⟩)
     rw[hin,Bool.not_true,Bool.false_or]at h3
     have hw:∀k,qZ ops j k=true→L.getD k false=true:=λk hw=>by
      obtain⟨o,ho,e,he,hb,rfl⟩:=zR.1 hw
      rw[hoj]at ho
      cases ho
      exact hall e he hb
     have hno:L.getD i false=false:=by
      simp only[aaX,Array.getElem?_eq_getElem hlt,Option.getD_some]at hiL ⊢
      exact hiL
     rw[sF hcl 4 j i hw h3]at hno;cases hno
   have h2:=wpOp_putIf hoj (hfree j oj hoj hji hjun hnot) (λcs b=>hsel i oi cs b hi) (λcs b=>hsel j oj cs b hoj) hQ hy h1
   have hfree':∀m om,ops[m]? =some om→m≠i→(L.setIfInBounds j true).getD m true=false→
     (∀e∈om.after,Region.binds .any e=true→e.on≠i)→oi.apart ops om=true:=λm om hom hmi hun hno=>by
    refine hfree m om hom hmi ?_ hno
    by_cases hjm:j=m
    ·subst hjm;exact hjun
    ·rw[getD_set_ne true hjm]at hun;exact hun
   refine wpOp_mono (λa' w' h3=> ?_) h2
   have hS':S w':=h3.2.1.resolve_right (by simp[hnf])
   refine⟨.inl hS',ih (L.setIfInBounds j true) a' w' (by simpa using hsz) hfree' (ready_mono hr (Ne.symm hji)) (hcl.add hj) h3.1 hS' ?_⟩
   rw[Array.setIfInBounds_comm _ _ hji]
   exact h3.2.2
end
section
variable (P:Program) (n:Nat) (ops:Array Oper) (Q:(Nat→Value)→World→Prop) (S:World→Prop)
structure WT (k:Nat) (L:Array Bool) (f:Nat→Value) (w:World):Prop where
 out:L.size=ops.size→m7 ops L→∀a,Dv n f a→XR P ops (OH n Q) S k L a w
end
section
variable {P:Program} {n:Nat} {ops:Array Oper} {Q:(Nat→Value)→World→Prop} {S:World→Prop} {f:Nat→Value} {w:World} {k:Nat} {L:Array Bool}
theorem Qg (hr:Region.ready .any ops L=[]) (h:Q f w):WT P n ops Q S k L f w:=by
 refine⟨λ_ _ a ha=> ?_⟩
 cases k with
 |zero=>exact⟨hr,rfl,f,ha,h⟩
 |succ k=>exact⟨λ_=>⟨rfl,f,ha,h⟩,by rw[hr];simp⟩
theorem Ck (i:Nat) {oi:Oper} {dd:Option Nat} {v:Value} (hi:ops[i]? =some oi) (hs:Region.noSelect ops=true) (hf:Region.free .any ops L i=true)
  (hr:(Region.ready .any ops L).contains i=true) (hg:fW ops f oi=true) (he0:oi.dst=dd) (hd:jM n dd=true)
  (hv:∀w',S w'→(execOp (dg f) oi).run P w'= .ok (.value v) w') (hS:S w)
  (h:WT P n ops Q S k (L.setIfInBounds i true) (updo f dd v) w):WT P n ops Q S (k+1) L f w:=by
 subst he0
 refine⟨λhsz hcl a ha=> ?_⟩
 refine A5 (v:=v) hi (Region.noSelect_spec hs) (λc a w h=>nomatch h.1) k L a w hsz (Region.free_spec hi hf) (by simpa using hr) hcl ?_ hS ?_
 ·exact .inl ⟨by rw[ha.wanted];exact hg,λw' hw'=>by rw[ha.eval];exact hv w' hw'⟩
 ·exact h.out (by simpa using hsz) (hcl.add (by simpa using hr)) _ (ha.put hd v)
theorem NK (i:Nat) {oi:Oper} {dd:Option Nat} {b:Bool} (hi:ops[i]? =some oi) (hs:Region.noSelect ops=true) (hf:Region.free .any ops L i=true)
  (hr:(Region.ready .any ops L).contains i=true) (hg:fW ops f oi=true) (he0:oi.dst=dd) (hd:jM n dd=true)
  (hv:∀w',S w'→(execOp (dg f) oi).run P w'= .ok (.value (.bool b)) w') (hS:S w)
  (ht:b=true→WT P n ops Q S k (L.setIfInBounds i true) (updo f dd (.bool true)) w)
  (he:b=false→WT P n ops Q S k (L.setIfInBounds i true) (updo f dd (.bool false)) w):WT P n ops Q S (k+1) L f w:=by
 cases b
 ·exact Ck i hi hs hf hr hg he0 hd hv hS (he rfl)
 ·exact Ck i hi hs hf hr hg he0 hd hv hS (ht rfl)
theorem Sq (i:Nat) {oi:Oper} {dd:Option Nat} (hi:ops[i]? =some oi) (hs:Region.noSelect ops=true) (hf:Region.free .any ops L i=true)
  (hr:(Region.ready .any ops L).contains i=true) (hg:fW ops f oi=false) (he0:oi.dst=dd) (hd:jM n dd=true) (hS:S w)
  (h:WT P n ops Q S k (L.setIfInBounds i true) (updo f dd undef) w):WT P n ops Q S (k+1) L f w:=by
 subst he0
 refine⟨λhsz hcl a ha=> ?_⟩
 refine A5 (v:=undef) hi (Region.noSelect_spec hs) (λc a w h=>nomatch h.1) k L a w hsz (Region.free_spec hi hf) (by simpa using hr) hcl ?_ hS ?_
 ·exact .inr ⟨by rw[ha.wanted];exact hg,rfl⟩
 ·exact h.out (by simpa using hsz) (hcl.add (by simpa using hr)) _ (ha.put hd undef)
theorem Ey {i:Nat} {oi:Oper} {dd:Option Nat} (hi:ops[i]? =some oi) (hg:fW ops f oi=true) (he0:oi.dst=dd) (hd:jM n dd=true) {K:(Nat→Value)→World→Prop} {a:Act} (ha:Dv n f a)
  {J:Act→World→Prop} (hJ:∀f' a' w',Dv n f' a'→K f' w'→J a' w') (h:Yd P oi f w λv w'=>K (updo f dd v) w'):wpOp P ops (OH n Q) i J a w:=by
 subst he0
 unfold wpOp
 simp only[hi]
 rw[ha.wanted,if_pos hg]
 refine .inl (Oper.wp_mono (λa' w' ⟨v,e,hk⟩=> ?_) (h.out a ha.eval (OH n Q)))
 subst e
 exact hJ _ _ _ (ha.put hd v) hk
theorem jK (i:Nat) {oi:Oper} {dd:Option Nat} (hr:Region.ready .any ops L=[i]) (hi:ops[i]? =some oi) (hg:fW ops f oi=true) (he0:oi.dst=dd) (hd:jM n dd=true)
  (h:Yd P oi f w λv w'=>(S w'∨mg ops L i=true)∧WT P n ops Q S k (L.setIfInBounds i true) (updo f dd v) w'):WT P n ops Q S (k+1) L f w:=by
 refine⟨λhsz hcl a ha=> ?_⟩
 refine⟨λh0=>(by rw[hr]at h0;cases h0),λj hj=> ?_⟩
 have hj':=hj
 rw[hr,Z8]at hj
 subst hj
 exact Ey (K:=λf' w'=>(S w'∨mg ops L j=true)∧WT P n ops Q S k (L.setIfInBounds j true) f' w') hi hg he0 hd ha
  (λf' a' w' hr' hk=>⟨hk.1,hk.2.out (by simpa using hsz) (hcl.add hj') a' hr'⟩) h
theorem tw (i j:Nat) {oi oj:Oper} {di dj:Option Nat} (hr:Region.ready .any ops L=[i,j]) (hi:ops[i]? =some oi) (hj:ops[j]? =some oj)
  (hgi:fW ops f oi=true) (hei:oi.dst=di) (hdi:jM n di=true) (hgj:fW ops f oj=true) (hej:oj.dst=dj) (hdj:jM n dj=true)
  (h1:Yd P oi f w λv w'=>(S w'∨mg ops L i=true)∧WT P n ops Q S k (L.setIfInBounds i true) (updo f di v) w')
  (h2:Yd P oj f w λv w'=>(S w'∨mg ops L j=true)∧WT P n ops Q S k (L.setIfInBounds j true) (updo f dj v) w'):WT P n ops Q S (k+1) L f w:=by
 refine⟨λhsz hcl a ha=> ?_⟩
 refine⟨λh0=>(by rw[hr]at h0;cases h0),λm hm=> ?_⟩
 have hm':=hm
 rw[hr]at hm
 rcases aaq.1 hm with rfl|hm
 ·exact Ey (K:=λf' w'=>(S w'∨mg ops L m=true)∧WT P n ops Q S k (L.setIfInBounds m true) f' w') hi hgi hei hdi ha
   (λf' a' w' hr' hk=>⟨hk.1,hk.2.out (by simpa using hsz) (hcl.add hm') a' hr'⟩) h1
 ·rw[Z8]at hm
  subst hm
  exact Ey (K:=λf' w'=>(S w'∨mg ops L m=true)∧WT P n ops Q S k (L.setIfInBounds m true) f' w') hj hgj hej hdj ha
   (λf' a' w' hr' hk=>⟨hk.1,hk.2.out (by simpa using hsz) (hcl.add hm') a' hr'⟩) h2
end
section
variable (P:Program) (n:Nat)
def X1 (n:Nat) (Q:Exit→(Nat→Value)→World→Prop):Exit→Act→World→Prop:=λe a w=>∃f,Dv n f a∧Q e f w
structure WC (c:Code) (Q:Exit→(Nat→Value)→World→Prop) (f:Nat→Value) (w:World):Prop where
 out:∀a,Dv n f a→c.wp P (X1 n Q) a w
def xY (K:(Nat→Value)→World→Prop) (Q:Exit→(Nat→Value)→World→Prop):Exit→(Nat→Value)→World→Prop
 | .normal=>K
 |e=>Q e
def tq (id:Nat) (Q:Exit→(Nat→Value)→World→Prop):Exit→(Nat→Value)→World→Prop
 | .exit id'=>if id'=id then Q .normal else Q (.exit id')
 |e=>Q e
end
section
variable {P:Program} {n:Nat} {Q:Exit→(Nat→Value)→World→Prop} {f:Nat→Value} {w:World}
theorem UF {x y:Code} (h:∀K:(Nat→Value)→World→Prop,(∀f w,WC P n y Q f w→K f w)→WC P n x (xY K Q) f w):WC P n (.seq x y) Q f w:=by
 refine⟨λa ha=> ?_⟩
 refine wp_seq (Code.wp_mono (λe a' w' hq=> ?_) ((h (WC P n y Q) (λ_ _ h=>h)).out a ha))
 obtain⟨f',hr,hq⟩:=hq
 cases e with
 |normal=>exact hq.out a' hr
 |_=>exact⟨f',hr,hq⟩
theorem eJ {K:(Nat→Value)→World→Prop} (h:Q .ret f w):xY K Q .ret f w:=h
theorem eg {id:Nat} (h:Q .ret f w):tq id Q .ret f w:=h
theorem cu (h:Q .normal f w):WC P n .skip Q f w:=⟨λ_ ha=>wp_skip ⟨f,ha,h⟩⟩
theorem lh (h:Q .ret f w):WC P n .ret Q f w:=⟨λ_ ha=>wp_ret ⟨f,ha,h⟩⟩
theorem cR {id:Nat} (h:Q (.exit id) f w):WC P n (.exit id) Q f w:=⟨λ_ ha=>wp_exit ⟨f,ha,h⟩⟩
theorem De {c:Operand} {x y:Code} {b:Bool} (hc:dg f c= .bool b) (ht:b=true→WC P n x Q f w) (hf:b=false→WC P n y Q f w):WC P n (.cond c x y) Q f w:=by
 refine⟨λa ha=> ?_⟩
 refine wp_cond_split (t:=b) (by rw[ha.eval];exact hc) (λh=>(ht h).out a ha) (λh=>(hf h).out a ha)
theorem cF {c:Operand} {x y:Code} (hc:dg f c= .bool true) (ht:WC P n x Q f w):WC P n (.cond c x y) Q f w:=De hc (λ_=>ht) (λh=>by cases h)
theorem dA {c:Operand} {x y:Code} (hc:dg f c= .bool false) (hf:WC P n y Q f w):WC P n (.cond c x y) Q f w:=De hc (λh=>by cases h) (λ_=>hf)
theorem cx {id:Nat} {c:Code} (h:WC P n c (tq id Q) f w):WC P n (.block id c) Q f w:=by
 refine⟨λa ha=> ?_⟩
 refine wp_block (Code.wp_mono (λe a' w' hq=> ?_) (h.out a ha))
 obtain⟨f',hr,hq⟩:=hq
 cases e with
 |exit id'=>
  by_cases hid:id'=id
  ·simp only[tq,hid,if_true]at hq
   simp only[Exit.inBlock,hid,if_true]
   exact⟨f',hr,hq⟩
  ·simp only[tq,hid,if_false]at hq
   simp only[Exit.inBlock,hid,if_false]
   exact⟨f',hr,hq⟩
 |normal=>exact⟨f',hr,hq⟩
 |ret=>exact⟨f',hr,hq⟩
 |goto l=>exact⟨f',hr,hq⟩
 |panic c=>exact⟨f',hr,hq⟩
 |outgrown=>exact⟨f',hr,hq⟩
theorem cN {id:Nat} {l:List Oper} (h:WL P n l.toArray (Q .normal) l f w):WC P n (.region id l.toArray false) Q f w:=by
 refine⟨λa ha=> ?_⟩
 refine Code.wp_mono (λe a' w' hq=> ?_) (wp_region_lit (h.out a ha))
 obtain⟨rfl,f',hr,hq⟩:=hq
 exact⟨f',hr,hq⟩
theorem fe (S:World→World→Prop) {id:Nat} {ops:Array Oper} (hm:P.follows .mixedOrders=true)
  (h:∀w1,dz w w1→WT P n ops (Q .normal) (S w1) ops.size (Array.replicate ops.size false) f w1):WC P n (.region id ops true) Q f w:=by
 refine⟨λa ha=> ?_⟩
 refine Code.wp_mono (λe a' w' hq=> ?_) (wp_region_any hm (zC _ _ _ _ ((h _ (act w _)).out gj m7.none a ha)))
 obtain⟨rfl,f',hr,hq⟩:=hq
 exact⟨f',hr,hq⟩
def updL (l:List (Nat×Value)) (f:Nat→Value):Nat→Value:=
 match l with
 |[]=>f
 |(d,v)::r=>upd (updL r f) d v
def oS (S:List Nat) (t:Nat):Bool:=
 match S with
 |a::b::r=>cond (cond (Nat.ble a t) (Nat.ble t b) false) true (oS r t)
 |_=>false
def mask (S:List Nat) (f g:Nat→Value):Nat→Value:=λt=>cond (oS S t) (g t) (f t)
def dB (S:List Nat) (f g:Nat→Value):Prop:=∀t,oS S t=false→f t=g t
theorem dB.refl (S:List Nat) (f:Nat→Value):dB S f f:=λ_ _=>rfl
theorem dB.upd {S:List Nat} {f g:Nat→Value} (h:dB S f g) {d:Nat} (hd:oS S d=true) (v:Value):dB S (upd f d v) g:=by
 intro t ht
 rw[Dt _ _ (λe=>by rw[e,hd]at ht;cases ht)]
 exact h t ht
theorem abG {S:List Nat} {f g:Nat→Value} (h:dB S f g) {d:Option Nat} (hd:(match d with|none=>true|some d=>oS S d)=true) (v:Value):dB S (updo f d v) g:=by
 cases d with
 |none=>exact h
 |some d=>exact h.upd hd v
theorem dB.mask (S:List Nat) (f g:Nat→Value):dB S (mask S f g) f:=by
 intro t ht
 simp only[Go.Proofs.YtedeonkjellcpaaGreatDoor.mask,ht,cond_false]
theorem aby {S:List Nat} {f g:Nat→Value} (h:dB S f g):∀(l:List (Nat×Value)),(l.all λp=>oS S p.1)=true→dB S (updL l f) g
 |[],_=>h
 |(d,v)::r,hl=>by
  simp only[aa7,we]at hl
  exact(aby h r hl.2).upd hl.1 v
def qY (f:Nat→Value):List (Nat×Value)→Prop
 |[]=>True
 |(d,v)::r=>f d=v∧qY f r
theorem xu {S:List Nat} {f0 f:Nat→Value} (h:dB S f f0):∀(l:List (Nat×Value)),qY f l→f=updL l (mask S f0 f)
 |[],_=>by
  funext t
  cases ht:oS S t with
  |true=>simp only[updL,mask,ht,cond_true]
  |false=>simp only[updL,mask,ht,cond_false];exact h t ht
 |(d,v)::r,hl=>by
  funext t
  have ih:=congrFun (xu h r hl.2) t
  by_cases e:t=d
  ·subst e
   rw[updL,zw];exact hl.1
  ·rw[updL,Dt _ _ e];exact ih
theorem cS {σ:Type} (S:List Nat) (L:σ→List (Nat×Value)) (I:σ→World→Prop) (μ:σ→Nat) (s0:σ) {c:Code}
  (hs:qY f (L s0)) (hi:I s0 w)
  (hb:∀s g w1,I s w1→∀J:(Nat→Value)→World→Prop,(∀f2 w2 s2,dB S f2 f→qY f2 (L s2)→I s2 w2→μ s2<μ s→J f2 w2)→
   WC P n c (xY J Q) (updL (L s) (mask S f g)) w1):WC P n (.loop c) Q f w:=by
 refine⟨λa ha=> ?_⟩
 refine wp_loop_ghost (λm a' w'=>∃s f1,μ s=m∧Dv n f1 a'∧dB S f1 f∧qY f1 (L s)∧I s w') (μ s0) ⟨s0,f,rfl,ha,dB.refl _ _,hs,hi⟩ ?_
 rintro m a1 w1 ⟨s,f1,rfl,hr,hag,hl,hI⟩
 have hb':=hb s f1 w1 hI (λf2 w2=>dB S f2 f∧∃s2,qY f2 (L s2)∧I s2 w2∧μ s2<μ s) (λf2 w2 s2 h1 h2 h3 h4=>⟨h1,s2,h2,h3,h4⟩)
 rw[←xu hag (L s) hl]at hb'
 refine Code.wp_mono (λe a2 w2 hq=> ?_) (hb'.out a1 hr)
 obtain⟨f2,hr2,hq⟩:=hq
 cases e with
 |normal=>
  obtain⟨hag2,s2,hl2,hI2,hlt⟩:=hq
  exact⟨μ s2,hlt,s2,f2,rfl,hr2,hag2,hl2,hI2⟩
 |exit id=>exact⟨f2,hr2,hq⟩
 |goto l=>exact⟨f2,hr2,hq⟩
 |ret=>exact⟨f2,hr2,hq⟩
 |panic c=>exact⟨f2,hr2,hq⟩
 |outgrown=>exact⟨f2,hr2,hq⟩
end
end
section
open Go Go.RowKit
def eE (P:Program) (t:TypeId):Bool:=
 match P.underlying t with
 |some (.struct _)|some (.array _ _)|none=>false
 |_=>(P.info? t).any λi=>i.size==1
def j8 (P:Program) (t:TypeId):Option Nat:=
 match P.underlying t with
 |some (.struct _)|some (.array _ _)=>(P.info? t).map (·.size)
 |_=>none
def dS (P:Program) (t:TypeId) (k:Nat):Option Nat:=
 match P.underlying t with
 |some (.struct fs)=>(fs[k]?).bind λfd=>if (P.info? fd.type).any (λi=>i.size != 0)then some fd.offset else none
 |_=>none
def fj (P:Program) (t:TypeId):Option (TypeId×Nat×Nat):=
 match P.underlying t with
 |some (.slice e)=>(P.info? e).map λi=>(e,i.size,i.bytes)
 |_=>none
def Lm (P:Program) (t:TypeId):Option (Nat×Nat):=
 match P.underlying t with
 |some (.array n e)=>(P.info? e).map λi=>(n,i.size)
 |_=>none
def dT (P:Program) (t:TypeId):Option Value:=(P.info? t).bind (·.zero)
def mU (P:Program) (t:TypeId):Option (TypeId×TypeId):=
 match P.underlying t with
 |some (.map k e)=>some (k,e)
 |_=>none
def cX (P:Program) (g:Nat):Bool:=
 match P.funcs[g]? with
 |some fn=> !(fn.name== "runtime.NumGoroutine")&&fn.body.isSome
 |none=>false
theorem lX {P:Program} {t:TypeId} {k:Nat} (h:j8 P t=some k):(isAgg t).run P=Sem.run P (pure true)∧(sizeOf t).run P=Sem.run P (pure k):=by
 unfold j8 at h
 cases hu:P.underlying t with
 |none=>simp[hu]at h
 |some d=>
  cases hi:P.info? t with
  |none=>cases d<;>simp[hu,hi]at h
  |some i=>
   cases d<;>simp[hu,hi]at h
   all_goals
    subst h
    exact⟨by funext w;simp[isAgg,run_underlying hu],by funext w;simp[sizeOf,typeInfo,hi]⟩
theorem m4 {P:Program} {t:TypeId} (h:eE P t=true):(isAgg t).run P=Sem.run P (pure false)∧(sizeOf t).run P=Sem.run P (pure 1):=by
 unfold eE at h
 cases hu:P.underlying t with
 |none=>simp[hu]at h
 |some d=>
  cases hi:P.info? t with
  |none=>cases d<;>simp[hu,hi]at h
  |some i=>
   cases d<;>simp[hu,hi]at h
   all_goals exact⟨by funext w;simp[isAgg,run_underlying hu],by funext w;simp[sizeOf,typeInfo,hi,h]⟩
section
variable {P:Program} {f:Nat→Value} {w:World} {d:Option Nat} {ty:TypeId} {ps:String} {af:Array Edge} {g:Option (Nat×Bool)} {x y c:Operand}
theorem jL {v:Value} (h:dg f x=v):(execOp (dg f) ⟨d, .move x,ty,ps,af,g⟩).run P w= .ok (.value v) w:=by subst h;rfl
theorem FW {v:Value} (h:dg f x=v):(execOp (dg f) ⟨d, .assign x,ty,ps,af,g⟩).run P w= .ok (.value v) w:=by subst h;rfl
theorem Mg {v:Value} (hc:dg f c= .bool true) (h:dg f x=v):(execOp (dg f) ⟨d, .pick c x y,ty,ps,af,g⟩).run P w= .ok (.value v) w:=by
 subst h;simp[execOp,hc,asBool]
theorem LE {v:Value} (hc:dg f c= .bool false) (h:dg f y=v):(execOp (dg f) ⟨d, .pick c x y,ty,ps,af,g⟩).run P w= .ok (.value v) w:=by
 subst h;simp[execOp,hc,asBool]
theorem rb {a:Addr} (h:dg f x= .pointer (some a)):(execOp (dg f) ⟨d, .nilCheck x,ty,ps,af,g⟩).run P w= .ok (.value (.pointer (some a))) w:=by
 simp[execOp,h]
variable {t t2:TypeId} {k:IntKind} {a b:Int}
theorem S4 (hx:dg f x= .int k a) (hy:dg f y= .int k b):(execOp (dg f) ⟨d, .binOp .add t x y t2,ty,ps,af,g⟩).run P w= .ok (.value (.int k (k.wrap (a+b)))) w:=by
 simp[execOp,hx,hy,eqGuard,binOp,Op.intArith]
theorem Mp (hx:dg f x= .int k a) (hy:dg f y= .int k b):(execOp (dg f) ⟨d, .binOp .sub t x y t2,ty,ps,af,g⟩).run P w= .ok (.value (.int k (k.wrap (a-b)))) w:=by
 simp[execOp,hx,hy,eqGuard,binOp,Op.intArith]
theorem Oh (hx:dg f x= .int k a) (hy:dg f y= .int k b):(execOp (dg f) ⟨d, .binOp .mul t x y t2,ty,ps,af,g⟩).run P w= .ok (.value (.int k (k.wrap (a*b)))) w:=by
 simp[execOp,hx,hy,eqGuard,binOp,Op.intArith]
theorem Yv (hx:dg f x= .int k a) (hy:dg f y= .int k b) (hb:b≠0):(execOp (dg f) ⟨d, .binOp .quo t x y t2,ty,ps,af,g⟩).run P w= .ok (.value (.int k (k.wrap (a.tdiv b)))) w:=by
 simp[execOp,hx,hy,eqGuard,binOp,Op.intDiv,hb]
theorem Yp (hx:dg f x= .int k a) (hy:dg f y= .int k b) (hb:b≠0):(execOp (dg f) ⟨d, .binOp .rem t x y t2,ty,ps,af,g⟩).run P w= .ok (.value (.int k (a.tmod b))) w:=by
 simp[execOp,hx,hy,eqGuard,binOp,Op.intDiv,hb]
theorem WP (a b:Int):(a==b)=decide (a=b):=aaA.2 gj
theorem dW (hx:dg f x= .int k a) (hy:dg f y= .int k b):(execOp (dg f) ⟨d, .binOp .eql t x y t2,ty,ps,af,g⟩).run P w= .ok (.value (.bool (decide (a=b)))) w:=by
 simp[execOp,hx,hy,eqGuard,binOp,Op.intCmp,WP]
theorem ep (hx:dg f x= .int k a) (hy:dg f y= .int k b):(execOp (dg f) ⟨d, .binOp .neq t x y t2,ty,ps,af,g⟩).run P w= .ok (.value (.bool (decide (¬a=b)))) w:=by
 simp[execOp,hx,hy,eqGuard,binOp,Op.intCmp,bne,WP]
theorem dk (hx:dg f x= .int k a) (hy:dg f y= .int k b):(execOp (dg f) ⟨d, .binOp .lss t x y t2,ty,ps,af,g⟩).run P w= .ok (.value (.bool (decide (a<b)))) w:=by
 simp[execOp,hx,hy,eqGuard,binOp,Op.intCmp]
theorem Bd (hx:dg f x= .int k a) (hy:dg f y= .int k b):(execOp (dg f) ⟨d, .binOp .leq t x y t2,ty,ps,af,g⟩).run P w= .ok (.value (.bool (decide (a≤b)))) w:=by
 simp[execOp,hx,hy,eqGuard,binOp,Op.intCmp]
theorem il (hx:dg f x= .int k a) (hy:dg f y= .int k b):(execOp (dg f) ⟨d, .binOp .gtr t x y t2,ty,ps,af,g⟩).run P w= .ok (.value (.bool (decide (b<a)))) w:=by
 simp[execOp,hx,hy,eqGuard,binOp,Op.intCmp]
theorem mT (hx:dg f x= .int k a) (hy:dg f y= .int k b):(execOp (dg f) ⟨d, .binOp .geq t x y t2,ty,ps,af,g⟩).run P w= .ok (.value (.bool (decide (b≤a)))) w:=by
 simp[execOp,hx,hy,eqGuard,binOp,Op.intCmp]
theorem Cx {z:Int} (h1: -9223372036854775808≤z) (h2:z≤9223372036854775807):IntKind.i64.wrap z=z:=by
 rw[IntKind.wrap_i64];omega
theorem eP (hx:dg f x= .int .i64 a) (hy:dg f y= .int .i64 b) (h1: -9223372036854775808≤a+b) (h2:a+b≤9223372036854775807):
  (execOp (dg f) ⟨d, .binOp .add t x y t2,ty,ps,af,g⟩).run P w= .ok (.value (.int .i64 (a+b))) w:=by rw[S4 hx hy,Cx h1 h2]
theorem ld (hx:dg f x= .int .i64 a) (hy:dg f y= .int .i64 b) (h1: -9223372036854775808≤a-b) (h2:a-b≤9223372036854775807):
  (execOp (dg f) ⟨d, .binOp .sub t x y t2,ty,ps,af,g⟩).run P w= .ok (.value (.int .i64 (a-b))) w:=by rw[Mp hx hy,Cx h1 h2]
theorem Uq (hx:dg f x= .int .i64 a) (hy:dg f y= .int .i64 b) (h1: -9223372036854775808≤a*b) (h2:a*b≤9223372036854775807):
  (execOp (dg f) ⟨d, .binOp .mul t x y t2,ty,ps,af,g⟩).run P w= .ok (.value (.int .i64 (a*b))) w:=by rw[Oh hx hy,Cx h1 h2]
def ip:IntKind→Nat
 | .i8=>1| .i16=>1| .i32=>2147483648| .i64=>9223372036854775808
 | .u8=>256| .u16=>65536| .u32=>4294967296| .u64=>18446744073709551616
theorem ke {k:IntKind} {m:Nat} (h:m<ip k):k.wrap (m:Int)=(m:Int):=by
 cases k<;>simp only[ip]at h
 ·obtain rfl:m=0:=by omega
  rfl
 ·obtain rfl:m=0:=by omega
  rfl
 ·rw[IntKind.wrap_i32];omega
 ·rw[IntKind.wrap_i64];omega
 ·rw[IntKind.wrap_u8];omega
 ·rw[IntKind.wrap_u16];omega
 ·rw[IntKind.wrap_u32];omega
 ·rw[IntKind.wrap_u64];omega
variable {m n:Nat}
theorem vA (hx:dg f x= .int k (m:Int)) (hy:dg f y= .int k b) (hb:b=(n:Int)) (hn:0<n) (hm:m<ip k):
  (execOp (dg f) ⟨d, .binOp .quo t x y t2,ty,ps,af,g⟩).run P w= .ok (.value (.int k ((m/n:Nat):Int))) w:=by
 subst hb
 rw[Yv hx hy (by omega)]
 have e:(m:Int).tdiv (n:Int)=((m/n:Nat):Int):=by rw[Int.tdiv_eq_ediv_of_nonneg (by omega)];simp
 rw[e,ke (aaw (aaY _ _) hm)]
theorem yF (hx:dg f x= .int k (m:Int)) (hy:dg f y= .int k b) (hb:b=(n:Int)) (hn:0<n):
  (execOp (dg f) ⟨d, .binOp .rem t x y t2,ty,ps,af,g⟩).run P w= .ok (.value (.int k ((m%n:Nat):Int))) w:=by
 subst hb
 rw[Yp hx hy (by omega)]
 have e:(m:Int).tmod (n:Int)=((m%n:Nat):Int):=by rw[Int.tmod_eq_emod_of_nonneg (by omega)];simp
 rw[e]
theorem Or (hx:dg f x= .int k (m:Int)) (hy:dg f y= .int k b) (hb:b=(n:Int)) (hm:m+n<ip k):
  (execOp (dg f) ⟨d, .binOp .add t x y t2,ty,ps,af,g⟩).run P w= .ok (.value (.int k ((m+n:Nat):Int))) w:=by
 subst hb
 rw[S4 hx hy]
 have e:(m:Int)+(n:Int)=((m+n:Nat):Int):=by simp
 rw[e,ke hm]
theorem LD (hx:dg f x= .int k (m:Int)) (hy:dg f y= .int k b) (hb:b=(n:Int)) (hm:m*n<ip k):
  (execOp (dg f) ⟨d, .binOp .mul t x y t2,ty,ps,af,g⟩).run P w= .ok (.value (.int k ((m*n:Nat):Int))) w:=by
 subst hb
 rw[Oh hx hy]
 have e:(m:Int)*(n:Int)=((m*n:Nat):Int):=by simp
 rw[e,ke hm]
theorem wh (B m:Nat) (h:m<2^B):(BitVec.ofInt B (m:Int)).toNat=m:=by
 rw[BitVec.toNat_ofInt]
 have e:((m:Int)%((2^B:Nat):Int)).toNat=m:=by
  rw[Int.emod_eq_of_lt (by omega) (by exact_mod_cast h)];simp
 exact e
theorem xW (k:IntKind):ip k≤2^k.bits:=by cases k<;>simp[ip,IntKind.bits]
theorem x5 (k:IntKind):∃j,ip k=2^j:=by
 cases k
 ·exact⟨0,rfl⟩
 ·exact⟨0,rfl⟩
 ·exact⟨31,rfl⟩
 ·exact⟨63,rfl⟩
 ·exact⟨8,rfl⟩
 ·exact⟨16,rfl⟩
 ·exact⟨32,rfl⟩
 ·exact⟨64,rfl⟩
theorem JD {k:IntKind} (hm:m<ip k):m &&& n<ip k:=by
 obtain⟨j,e⟩:=x5 k
 rw[e]at hm ⊢
 rw[Nat.and_comm]
 exact Nat.and_lt_two_pow _ hm
theorem UL {k:IntKind} (hm:m<ip k) (hn:n<ip k):m ||| n<ip k:=by
 obtain⟨j,e⟩:=x5 k
 rw[e]at hm hn ⊢
 exact Nat.or_lt_two_pow hm hn
theorem H7 {k:IntKind} (hm:m<ip k) (hn:n<ip k):m ^^^ n<ip k:=by
 obtain⟨j,e⟩:=x5 k
 rw[e]at hm hn ⊢
 exact Nat.xor_lt_two_pow hm hn
def andNot (m n:Nat):Nat:=m ^^^ (m &&& n)
theorem dU (m n i:Nat):(andNot m n).testBit i=(m.testBit i&& !n.testBit i):=by
 simp only[andNot,Nat.testBit_xor,aad]
 cases m.testBit i<;>cases n.testBit i<;>rfl
theorem GO {k:IntKind} (hm:m<ip k):andNot m n<ip k:=H7 hm (JD hm)
theorem rX (m n:Nat):andNot m n≤m:=by
 have e:andNot m n=m &&& andNot m n:=by
  refine Z7 λi=> ?_
  rw[aad,dU]
  cases m.testBit i<;>rfl
 rw[e]
 exact Nat.and_le_left
theorem nr {k:IntKind} {m:Nat} (h:m<ip k):(BitVec.ofInt k.bits (m:Int)).toNat=m:=wh _ _ (aao h (xW k))
theorem mZ (hx:dg f x= .int k (m:Int)) (hy:dg f y= .int k b) (hb:b=(n:Int)) (hm:m<ip k) (hn:n<ip k):
  (execOp (dg f) ⟨d, .binOp .and t x y t2,ty,ps,af,g⟩).run P w= .ok (.value (.int k ((m &&& n:Nat):Int))) w:=by
 subst hb
 have e:(BitVec.ofInt k.bits (m:Int) &&& BitVec.ofInt k.bits (n:Int)).toNat=m &&& n:=by
  rw[BitVec.toNat_and,nr hm,nr hn]
 simp only[execOp,hx,hy,eqGuard,binOp,Op.intBits,e,ke (JD (n:=n) hm)]
 simp
theorem Ab (hx:dg f x= .int k (m:Int)) (hy:dg f y= .int k b) (hb:b=(n:Int)) (hm:m<ip k) (hn:n<ip k):
  (execOp (dg f) ⟨d, .binOp .or t x y t2,ty,ps,af,g⟩).run P w= .ok (.value (.int k ((m ||| n:Nat):Int))) w:=by
 subst hb
 have e:(BitVec.ofInt k.bits (m:Int) ||| BitVec.ofInt k.bits (n:Int)).toNat=m ||| n:=by
  rw[BitVec.toNat_or,nr hm,nr hn]
 simp only[execOp,hx,hy,eqGuard,binOp,Op.intBits,e,ke (UL hm hn)]
 simp
theorem MD (hx:dg f x= .int k (m:Int)) (hy:dg f y= .int k b) (hb:b=(n:Int)) (hm:m<ip k) (hn:n<ip k):
  (execOp (dg f) ⟨d, .binOp .xor t x y t2,ty,ps,af,g⟩).run P w= .ok (.value (.int k ((m ^^^ n:Nat):Int))) w:=by
 subst hb
 have e:(BitVec.ofInt k.bits (m:Int) ^^^ BitVec.ofInt k.bits (n:Int)).toNat=m ^^^ n:=by
  rw[BitVec.toNat_xor,nr hm,nr hn]
 simp only[execOp,hx,hy,eqGuard,binOp,Op.intBits,e,ke (H7 hm hn)]
 simp
theorem qB (hx:dg f x= .int k (m:Int)) (hy:dg f y= .int k b) (hb:b=(n:Int)) (hm:m<ip k) (hn:n<ip k):
  (execOp (dg f) ⟨d, .binOp .andNot t x y t2,ty,ps,af,g⟩).run P w= .ok (.value (.int k ((andNot m n:Nat):Int))) w:=by
 subst hb
 have e:(BitVec.ofInt k.bits (m:Int) &&& ~~~BitVec.ofInt k.bits (n:Int)).toNat=andNot m n:=by
  have h1:=wh _ _ (aao hm (xW k))
  have h2:=wh _ _ (aao hn (xW k))
  refine Z7 λi=> ?_
  rw[dU,BitVec.testBit_toNat,BitVec.getLsbD_and,BitVec.getLsbD_not]
  rw[←BitVec.testBit_toNat,←BitVec.testBit_toNat,h1,h2]
  by_cases hi:i<k.bits
  ·simp[hi]
  ·have:m.testBit i=false:=abf (aao (aao hm (xW k)) (aaf (by omega) (by omega)))
   simp[this]
 simp only[execOp,hx,hy,eqGuard,binOp,Op.intBits,e,ke (GO hm)]
 simp
def H8:IntKind→Nat
 | .i8=>0| .i16=>0| .i32=>31| .i64=>63| .u8=>8| .u16=>16| .u32=>32| .u64=>64
theorem Vg (k:IntKind) (j:Nat) (h:j<H8 k):1*2^j<ip k:=by
 rw[aap]
 have e:ip k=2^H8 k:=by cases k<;>rfl
 rw[e]
 exact abv (by decide) h
theorem jA {yk:IntKind} (hx:dg f x= .int k (m:Int)) (hy:dg f y= .int yk b) (hb:0≤b) (hlt:b≤k.bits) (hm:m*2^b.toNat<ip k):
  (execOp (dg f) ⟨d, .binOp .shl t x y t2,ty,ps,af,g⟩).run P w= .ok (.value (.int k ((m*2^b.toNat:Nat):Int))) w:=by
 have hn:¬b<0:=by omega
 have hmin:min b.toNat k.bits=b.toNat:=abw (by omega)
 have e:(m:Int)*2^b.toNat=((m*2^b.toNat:Nat):Int):=by simp
 simp[execOp,hx,hy,eqGuard,binOp,Op.shift,hn,hmin]
 rw[e,ke hm]
theorem UR {yk:IntKind} (hx:dg f x= .int k a) (hy:dg f y= .int yk b) (hb:0≤b):
  (execOp (dg f) ⟨d, .binOp .shl t x y t2,ty,ps,af,g⟩).run P w= .ok (.value (.int k (k.wrap (a*2^(min b.toNat k.bits))))) w:=by
 have hn:¬b<0:=by omega
 simp[execOp,hx,hy,eqGuard,binOp,Op.shift,hn]
theorem qd {yk:IntKind} (hx:dg f x= .int k (m:Int)) (hy:dg f y= .int yk b) (hb:0≤b) (hlt:b≤k.bits):
  (execOp (dg f) ⟨d, .binOp .shr t x y t2,ty,ps,af,g⟩).run P w= .ok (.value (.int k ((m/2^b.toNat:Nat):Int))) w:=by
 have hn:¬b<0:=by omega
 have hmin:min b.toNat k.bits=b.toNat:=abw (by omega)
 have e:(m:Int).fdiv (2^b.toNat)=((m/2^b.toNat:Nat):Int):=by
  have e2:(2:Int)^b.toNat=((2^b.toNat:Nat):Int):=by simp
  have h0:(0:Int)≤((2^b.toNat:Nat):Int):=Int.natCast_nonneg _
  rw[e2,Int.fdiv_eq_ediv_of_nonneg _ h0]
  simp
 simp[execOp,hx,hy,eqGuard,binOp,Op.shift,hn,hmin,e]
theorem eR {b:Bool} (h:dg f x= .bool b):(execOp (dg f) ⟨d, .unOp .not t x,ty,ps,af,g⟩).run P w= .ok (.value (.bool (!b))) w:=by
 simp[execOp,h,Op.unary]
theorem Hf {a b:Bool} (hx:dg f x= .bool a) (hy:dg f y= .bool b) (ht:P.underlying t=some .bool):(execOp (dg f) ⟨d, .binOp .eql t x y t2,ty,ps,af,g⟩).run P w= .ok (.value (.bool (decide (a=b)))) w:=by
 have e:decide (a=b)=(a==b):=by cases a<;>cases b<;>rfl
 rw[e]
 have h:=run_equalIn_bool' (P:=P) w 9999 t a b ht
 simp[execOp,hx,hy,eqGuard,binOp,Op.equal,Op.maxDepth,h]
variable {v0 v1 v2 v3:Value}
theorem c7 (h:dg f x= .tuple #[v0,v1]):(execOp (dg f) ⟨d, .extract x 0,ty,ps,af,g⟩).run P w= .ok (.value v0) w:=by simp[execOp,h,Instr.extract]
theorem da (h:dg f x= .tuple #[v0,v1]):(execOp (dg f) ⟨d, .extract x 1,ty,ps,af,g⟩).run P w= .ok (.value v1) w:=by simp[execOp,h,Instr.extract]
theorem iO (h:dg f x= .tuple #[v0,v1,v2]):(execOp (dg f) ⟨d, .extract x 0,ty,ps,af,g⟩).run P w= .ok (.value v0) w:=by simp[execOp,h,Instr.extract]
theorem kf (h:dg f x= .tuple #[v0,v1,v2]):(execOp (dg f) ⟨d, .extract x 1,ty,ps,af,g⟩).run P w= .ok (.value v1) w:=by simp[execOp,h,Instr.extract]
theorem jS (h:dg f x= .tuple #[v0,v1,v2]):(execOp (dg f) ⟨d, .extract x 2,ty,ps,af,g⟩).run P w= .ok (.value v2) w:=by simp[execOp,h,Instr.extract]
theorem Ea (h:dg f x= .tuple #[v0,v1,v2,v3]):(execOp (dg f) ⟨d, .extract x 0,ty,ps,af,g⟩).run P w= .ok (.value v0) w:=by simp[execOp,h,Instr.extract]
theorem En (h:dg f x= .tuple #[v0,v1,v2,v3]):(execOp (dg f) ⟨d, .extract x 1,ty,ps,af,g⟩).run P w= .ok (.value v1) w:=by simp[execOp,h,Instr.extract]
theorem FA (h:dg f x= .tuple #[v0,v1,v2,v3]):(execOp (dg f) ⟨d, .extract x 2,ty,ps,af,g⟩).run P w= .ok (.value v2) w:=by simp[execOp,h,Instr.extract]
theorem EO (h:dg f x= .tuple #[v0,v1,v2,v3]):(execOp (dg f) ⟨d, .extract x 3,ty,ps,af,g⟩).run P w= .ok (.value v3) w:=by simp[execOp,h,Instr.extract]
theorem OK {k':IntKind} {desc:TypeDesc} (h:dg f x= .int k a) (hs:P.underlying t=some desc) (ht:P.underlying t2=some (.int k')):
  (execOp (dg f) ⟨d, .convert t t2 x,ty,ps,af,g⟩).run P w= .ok (.value (.int k' (k'.wrap a))) w:=by
 simp[execOp,h,convert,run_underlying hs,run_underlying ht,Conv.intToInt]
theorem ic {k':IntKind} {desc:TypeDesc} (h:dg f x= .int k (m:Int)) (hs:P.underlying t=some desc) (ht:P.underlying t2=some (.int k')) (hm:m<ip k'):
  (execOp (dg f) ⟨d, .convert t t2 x,ty,ps,af,g⟩).run P w= .ok (.value (.int k' (m:Int))) w:=by rw[OK h hs ht,ke hm]
theorem Cl {P:Program} {w:World} {q:Nat} {vs:Array Value} (h:cX P q=true):(callFunc q vs).run P w= .ok (.enter q vs) w:=by
 unfold cX at h
 cases hf:P.funcs[q]? with
 |none=>simp[hf]at h
 |some fn=>
  simp only[hf,we,Bool.not_eq_true',beq_eq_false_iff_ne,ne_eq]at h
  obtain⟨b,hb⟩:=Option.isSome_iff_exists.1 h.2
  simp[callFunc,hf,h.1,hb]
theorem ij {q:Nat} {args:Array Operand} {tys:Array TypeId} {first cap:Array Value} {vs:Array Value} (hq:dg f c= .func (.func q) first cap) (hc:cX P q=true) (hv:(first++args.map (dg f))++cap=vs):
  (execOp (dg f) ⟨d, .call ⟨.value c,args,tys⟩,ty,ps,af,g⟩).run P w= .ok (.enter q vs) w:=by
 subst hv
 simp[execOp,resolve,hq,Deferred.ofValue,invoke,Cl hc]
theorem Qu {q:Nat} {tys:Array TypeId} (hc:cX P q=true):
  (execOp (dg f) ⟨d, .call ⟨.value (.func q),#[],tys⟩,ty,ps,af,g⟩).run P w= .ok (.enter q #[]) w:=ij rfl hc gj
theorem Ig {q:Nat} {tys:Array TypeId} {x0:Operand} (hc:cX P q=true) (h0:dg f x0=v0):
  (execOp (dg f) ⟨d, .call ⟨.value (.func q),#[x0],tys⟩,ty,ps,af,g⟩).run P w= .ok (.enter q #[v0]) w:=ij rfl hc (by simp[h0])
theorem xR {q:Nat} {tys:Array TypeId} {x0 x1:Operand} (hc:cX P q=true) (h0:dg f x0=v0) (h1:dg f x1=v1):
  (execOp (dg f) ⟨d, .call ⟨.value (.func q),#[x0,x1],tys⟩,ty,ps,af,g⟩).run P w= .ok (.enter q #[v0,v1]) w:=ij rfl hc (by simp[h0,h1])
theorem BT {q:Nat} {tys:Array TypeId} {x0 x1 x2:Operand} (hc:cX P q=true) (h0:dg f x0=v0) (h1:dg f x1=v1) (h2:dg f x2=v2):
  (execOp (dg f) ⟨d, .call ⟨.value (.func q),#[x0,x1,x2],tys⟩,ty,ps,af,g⟩).run P w= .ok (.enter q #[v0,v1,v2]) w:=ij rfl hc (by simp[h0,h1,h2])
theorem yr {q:Nat} {tys:Array TypeId} {x0 x1:Operand} (hq:dg f c= .func (.func q) #[] #[]) (hc:cX P q=true) (h0:dg f x0=v0) (h1:dg f x1=v1):
  (execOp (dg f) ⟨d, .call ⟨.value c,#[x0,x1],tys⟩,ty,ps,af,g⟩).run P w= .ok (.enter q #[v0,v1]) w:=ij hq hc (by simp[h0,h1])
theorem fI {q:Nat} {caps:Array Operand} {vs:Array Value} (h:caps.map (dg f)=vs):
  (execOp (dg f) ⟨d, .makeFunc (.func q) #[] caps,ty,ps,af,g⟩).run P w= .ok (.value (.func (.func q) #[] vs)) w:=by
 subst h;simp[execOp,Instr.makeFunc]
end
theorem Ed {P:Program} (w:World) (E:Value→Value→Sem Bool) (A B:Nat→Sem Value) (r:Nat→Bool) (x y:Nat→Value) (n:Nat)
  (hA:∀i,i<n→(A i).run P w= .ok (x i) w) (hB:∀i,i<n→(B i).run P w= .ok (y i) w) (hE:∀i,i<n→(E (x i) (y i)).run P w= .ok (r i) w):
  Sem.run P (do
   for i in [0:n] do
    if !(←E (←A i) (←B i))then return false
   pure true) w= .ok ((List.range n).all r) w:=by
 simp only[Std.Legacy.Range.forIn_eq_forIn_range',Std.Legacy.Range.size,abK,aa9,Nat.div_one]
 rw[List.range_eq_range']
 have key:∀l:List Nat,(∀i∈l,i<n)→Sem.run P (forIn l ((none,()):Option Bool×Unit) λi _=>do
    let a ←A i
    let b ←B i
    let q ←E a b
    if (!q)=true then pure (ForInStep.done (some false,()))else pure (ForInStep.yield (none,()))) w= .ok (if l.all r then (none,())else (some false,())) w:=by
  intro l
  induction l with
  |nil=>intro _;simp
  |cons i l ih=>
   intro hl
   have hi:=hl i (aab ..)
   have ih':=ih (λj hj=>hl j (aai _ hj))
   simp only[List.forIn_cons,Sem.run_bind,hA i hi,hB i hi,hE i hi,Result.andThen_ok,aa7]
   by_cases hr:r i=true
   ·simpa [hr] using ih'
   ·simp[hr]
 rw[Sem.run_bind,key (List.range' 0 n) gj,Result.andThen_ok]
 cases (List.range' 0 n).all r<;>simp
theorem mK {P:Program} (w:World) (d n:Nat) (t e:TypeId) (xs ys:Array Value) (x y:Nat→Value) (r:Nat→Bool) (ht:P.underlying t=some (.array n e)) (hs:(P.info? e).map (·.size)=some 1) (ha:(isAgg e).run P w= .ok false w)
  (hx:∀i,i<n→xs[i]? =some (x i)) (hy:∀i,i<n→ys[i]? =some (y i)) (hE:∀i,i<n→(Op.equalIn d e (x i) (y i)).run P w= .ok (r i) w):
  (Op.equalIn (d+1) t (.agg xs) (.agg ys)).run P w= .ok ((List.range n).all r) w:=by
 obtain⟨j5,hj5,hs5⟩:=go.1 hs
 have h:=Ed (P:=P) w (Op.equalIn d e) (λi=>part e xs (i*1)) (λi=>part e ys (i*1)) r x y n
  (λi hi=>by simp[part,ha,hx i hi]) (λi hi=>by simp[part,ha,hy i hi]) hE
 simp only[Op.equalIn,Sem.run_bind,run_underlying ht,Result.andThen_ok,sizeOf,typeInfo]
 simp only[run_program,hj5,Sem.run_pure,Result.andThen_ok,hs5]
 simp only[Sem.run_bind]at h
 exact h
end
section
open Go Go.RowKit
def At (w:World) (b:Nat) (c:Array Value) (T:TypeId):Prop:=w.heap[b]? =some (.cells c T (0,0))
section
variable {w w':World} {b b':Nat} {c:Array Value} {T:TypeId} {o:Nat} {v:Value}
theorem At.lt (h:At w b c T):b<w.heap.size:=gf h
theorem dz.at (h:dz w w') (k:At w b c T):At w' b c T:=dz.block h k
instance {w w':World} {b:Nat} {c:Array Value} {T:TypeId}:Kp w w' (At w b c T) (At w' b c T):=⟨dz.at⟩
theorem At.grown {row:Option Nat} (k:At w b c T) (h:w.grownBy w' row) (hne:some b≠row):At w' b c T:=by
 unfold At
 rw[h.block b k.lt hne]
 exact k
theorem At.cell (k:At w b c T) (hc:c[o]? =some v):w.cell? ⟨b,o,none⟩=some v:=by
 rw[cell_of_row w b o c T (0,0) k];exact hc
theorem aco {T':TypeId} {c':Array Value} (k:At w b c T) (k':At w b' c' T') (hT:T≠T'):b≠b':=by
 rintro rfl
 unfold At at k k'
 rw[k]at k'
 simp only[Option.some.injEq,Obj.cells.injEq]at k'
 exact hT k'.2.1
theorem acy (h:w.grownBy w' none):dz w w':=⟨h.os,h.tape,h.output,h.size,λk hk=>h.block k hk gj⟩
theorem dz.grown (h:dz w w') (row:Option Nat):w.grownBy w' row:=⟨Below.os h,Below.tape h,Below.output h,Below.size h,λk hk _=>Below.block h k hk⟩
theorem dz.cell (h:dz w w') {p:Addr} {v:Value} (k:w.cell? p=some v):w'.cell? p=some v:=by
 rw[Below.cell h (World.block_lt_of_cell? w p k)];exact k
theorem db {N:Nat} {a:World} {row:Option Nat} (h:Below N a w) (hg:w.grownBy w' row) (hN:N≤a.heap.size) (hr:∀k,row=some k→N≤k):Below N a w':=
 Below.grown h hg (an hN (Below.size h)) hr
end
theorem hU (b o k:Nat):(⟨b,o,none⟩:Addr).add k=⟨b,o+k,none⟩:=by
 unfold Addr.add
 split
 ·subst_vars;rfl
 ·rfl
section
variable {P:Program} {f:Nat→Value} {w:World} {d:Option Nat} {ty:TypeId} {ps:String} {af:Array Edge} {g:Option (Nat×Bool)} {x y:Operand}
variable {t:TypeId} {b o:Nat} {v:Value} {c:Array Value} {T:TypeId} {K:Value→World→Prop}
theorem cB (hx:dg f x= .pointer (some ⟨b,o,none⟩)) (hT:eE P t=true) (hc:w.cell? ⟨b,o,none⟩=some v):
  (execOp (dg f) ⟨d, .load t x,ty,ps,af,g⟩).run P w= .ok (.value v) w:=by
 have h1:=congrFun (m4 hT).1 w
 simp[execOp,hx,Instr.loadAt,Instr.sureAddr,loadVar,h1,load,Sem.run,hc]
theorem run_loadCells_list (P:Program) (w:World) (a:Addr):∀(vs:List Value) (i:Nat) (acc:Array Value),(∀j u,vs[j]? =some u→w.cell? (a.add (i+j))=some u)→
  (loadCellsFrom a i vs.length acc).run P w= .ok (acc++vs.toArray) w
 |[],i,acc,_=>by simp[loadCellsFrom]
 |u::r,i,acc,h=>by
  have h0:=h 0 u rfl
  rw[abl]at h0
  have ih:=run_loadCells_list P w a r (i+1) (acc.push u) (λj v hv=>by have:=h (j+1) v (by simpa using hv);rwa [show i+1+j=i+(j+1) from by omega])
  simp only[aak,loadCellsFrom,Sem.run_bind,load,Sem.run,h0,Result.andThen_ok,ih]
  simp
theorem w9 {vs:List Value} {k:Nat} (hx:dg f x= .pointer (some ⟨b,o,none⟩)) (hT:j8 P t=some k) (hk:k=vs.length) (hc:∀j u,vs[j]? =some u→w.cell? ⟨b,o+j,none⟩=some u):
  (execOp (dg f) ⟨d, .load t x,ty,ps,af,g⟩).run P w= .ok (.value (.agg vs.toArray)) w:=by
 subst hk
 have h1:=congrFun (lX hT).1 w
 have h2:=congrFun (lX hT).2 w
 have h3:=run_loadCells_list P w ⟨b,o,none⟩ vs 0 #[] (λj u hu=>by rw[hU,aa1];exact hc j u hu)
 simp[execOp,hx,Instr.loadAt,Instr.sureAddr,loadVar,h1,h2,loadCells,h3]
theorem cy {k:Nat} (hx:dg f x= .pointer (some ⟨b,0,none⟩)) (hT:j8 P t=some k) (hk:k=c.size) (hm:At w b c T):
  (execOp (dg f) ⟨d, .load t x,ty,ps,af,g⟩).run P w= .ok (.value (.agg c)) w:=by
 have h:=w9 (P:=P) (f:=f) (w:=w) (d:=d) (ty:=ty) (ps:=ps) (af:=af) (g:=g) (x:=x) (t:=t) (vs:=c.toList) hx hT (by simpa using hk)
  (λj u hu=>by rw[aa1];exact hm.cell (by simpa using hu))
 simpa using h
theorem fD {v0 v1:Value} (hx:dg f x= .pointer (some ⟨b,o,none⟩)) (hT:j8 P t=some 2) (h0:w.cell? ⟨b,o,none⟩=some v0) (h1:w.cell? ⟨b,o+1,none⟩=some v1):
  (execOp (dg f) ⟨d, .load t x,ty,ps,af,g⟩).run P w= .ok (.value (.agg #[v0,v1])) w:=
 w9 (vs:=[v0,v1]) hx hT rfl (λj u hu=>by
  match j,hu with
  |0,hu=>simp at hu;subst hu;exact h0
  |1,hu=>simp at hu;subst hu;exact h1)
theorem gH {v0 v1 v2:Value} (hx:dg f x= .pointer (some ⟨b,o,none⟩)) (hT:j8 P t=some 3) (h0:w.cell? ⟨b,o,none⟩=some v0) (h1:w.cell? ⟨b,o+1,none⟩=some v1) (h2:w.cell? ⟨b,o+2,none⟩=some v2):
  (execOp (dg f) ⟨d, .load t x,ty,ps,af,g⟩).run P w= .ok (.value (.agg #[v0,v1,v2])) w:=
 w9 (vs:=[v0,v1,v2]) hx hT rfl (λj u hu=>by
  match j,hu with
  |0,hu=>simp at hu;subst hu;exact h0
  |1,hu=>simp at hu;subst hu;exact h1
  |2,hu=>simp at hu;subst hu;exact h2)
theorem fv {v0 v1 v2 v3:Value} (hx:dg f x= .pointer (some ⟨b,o,none⟩)) (hT:j8 P t=some 4) (h0:w.cell? ⟨b,o,none⟩=some v0) (h1:w.cell? ⟨b,o+1,none⟩=some v1) (h2:w.cell? ⟨b,o+2,none⟩=some v2) (h3:w.cell? ⟨b,o+3,none⟩=some v3):
  (execOp (dg f) ⟨d, .load t x,ty,ps,af,g⟩).run P w= .ok (.value (.agg #[v0,v1,v2,v3])) w:=
 w9 (vs:=[v0,v1,v2,v3]) hx hT rfl (λj u hu=>by
  match j,hu with
  |0,hu=>simp at hu;subst hu;exact h0
  |1,hu=>simp at hu;subst hu;exact h1
  |2,hu=>simp at hu;subst hu;exact h2
  |3,hu=>simp at hu;subst hu;exact h3)
theorem mz (w:World) (c:Array Value) (T:TypeId):At (w.alloc (.cells c T)) w.heap.size c T:=heap_alloc_new w _
theorem cI {z:Value} (hz:dT P t=some z) (hc:z.cells=c)
  (hK:∀b w',b=w.heap.size→dz w w'→At w' b c t→K (.pointer (some ⟨b,0,none⟩)) w'):Yd P ⟨d, .alloc t,ty,ps,af,g⟩ f w K:=by
 subst hc
 unfold dT at hz
 obtain⟨i,hi,hzz⟩:=Do.1 hz
 refine .val (w':=w.alloc (.cells z.cells t)) ?_ (hK w.heap.size _ rfl (dz.alloc w _) (mz w _ _))
 simp[execOp,Instr.alloc,zeroValue,typeInfo,hi,hzz,newVar,newRow]
theorem dt (hx:dg f x=v) (hc:v.cells=c)
  (hK:∀b w',b=w.heap.size→dz w w'→At w' b c t→K (.pointer (some ⟨b,0,none⟩)) w'):Yd P ⟨d, .box t x,ty,ps,af,g⟩ f w K:=by
 subst hx hc
 refine .val (w':=w.alloc (.cells (dg f x).cells t)) ?_ (hK w.heap.size _ rfl (dz.alloc w _) (mz w _ _))
 simp[execOp,Instr.box,newVar,newRow]
theorem w3 (w:World) (b o:Nat) (v:Value):w.grownBy (w.setCell ⟨b,o,none⟩ v) (some b):=
 ⟨rfl,rfl,rfl,by simp[World.setCell],λk _ hne=>Below.heap_setCell _ _ _ _ (by intro e;exact hne vu)⟩
theorem Hq (P:Program) (hv:v.oneCell'=true) (hm:At w b c T) (ho:o<c.size):
  (store ⟨b,o,none⟩ v).run P w= .ok () (w.setCell ⟨b,o,none⟩ v):=by
 have hc:w.cell? ⟨b,o,none⟩=some c[o]:=hm.cell (by simp[ho])
 have hf:w.frozen? ⟨b,o,none⟩=false:=frozen_of_row w b o c T hm
 cases v<;>first|(simp[Value.oneCell']at hv;done)|simp[store,Sem.run,hc,hf]
theorem HM (hm:At w b c T) (v:Value):At (w.setCell ⟨b,o,none⟩ v) b (c.setIfInBounds o v) T:=heap_setCell_same w b o c T v hm
theorem dm (hx:dg f x= .pointer (some ⟨b,o,none⟩)) (hy:dg f y=v) (hT:eE P t=true) (hv:v.oneCell'=true) (hm:At w b c T) (ho:o<c.size)
  (hK:∀w',w.grownBy w' (some b)→At w' b (c.setIfInBounds o v) T→K undef w'):Yd P ⟨d, .store t x y,ty,ps,af,g⟩ f w K:=by
 refine .skip (w':=w.setCell ⟨b,o,none⟩ v) ?_ (hK _ (w3 w b o v) (HM hm v))
 have h2:=congrFun (m4 hT).2 w
 have hcs:v.cells= #[v]:=by cases v<;>first|rfl|simp[Value.oneCell']at hv
 have hs:=Hq P hv hm ho
 have ha:(⟨b,o,none⟩:Addr).add 0=⟨b,o,none⟩:=rfl
 simp[execOp,hx,hy,Instr.storeAt,Instr.sureAddr,storeVar,h2,hcs,storeCells,ha,hs]
theorem cz {k:Nat} {c':Array Value} (hx:dg f x= .pointer (some ⟨b,0,none⟩)) (hy:dg f y= .agg c') (hT:j8 P t=some k) (hk:k=c'.size) (hm:At w b c T) (hs0:k=c.size) (hv0:c'.toList.all Value.oneCell'=true)
  (hK:∀w',w.grownBy w' (some b)→At w' b c' T→K undef w'):Yd P ⟨d, .store t x y,ty,ps,af,g⟩ f w K:=by
 subst hk
 have hs:c'.size=c.size:=hs0
 have h2:=congrFun (lX hT).2 w
 have hv:∀v∈c'.toList,v.oneCell'=true:=λv h=>aaj.1 hv0 v h
 have hst:=run_storeCells_at P b 0 T c'.toList 0 c w hm (by simp[hs]) hv
 have e:(c.toList.take (0+0)++c'.toList++c.toList.drop (0+0+c'.toList.length)).toArray=c':=by
  have h0:c.toList.drop c'.toList.length=[]:=List.drop_of_length_le (by simp[hs])
  simp only[abl,aa1,List.take_zero,aaM,h0,aaT,Array.toArray_toList]
 rw[e]at hst
 refine .skip (w':=w.setRow b c') ?_ (hK _ ⟨rfl,rfl,rfl,by simp,λj _ hj=>setRow_other w b j _ (λe=>hj vu)⟩ (setRow_heap w b c c' T (0,0) hm))
 simp[execOp,hx,hy,Instr.storeAt,Instr.sureAddr,storeVar,h2,Value.cells,hst]
theorem qU {k q:Nat} (hx:dg f x= .pointer (some ⟨b,o,none⟩)) (hT:dS P t k=some q):
  (execOp (dg f) ⟨d, .fieldAddr t x k,ty,ps,af,g⟩).run P w= .ok (.value (.pointer (some ⟨b,o+q,none⟩))) w:=by
 unfold dS at hT
 cases hu:P.underlying t with
 |none=>simp[hu]at hT
 |some desc=>
  cases desc<;>simp only[hu,reduceCtorEq]at hT
  obtain⟨fd,hfd,hz⟩:=Do.1 hT
  split at hz
  case isFalse=>cases hz
  rename_i hany
  obtain rfl:=Z9 hz
  cases hi:P.info? fd.type with
  |none=>simp[hi]at hany
  |some i=>
  simp only[hi,Option.any_some,bne_iff_ne,ne_eq]at hany
  have hn:=hany
  simp[execOp,hx,Instr.fieldAt,run_underlying hu,hfd,Instr.sureAddr,fieldPlace,sizeOf,typeInfo,hi,hn,hU]
theorem fo {n sz:Nat} {j:Int} {k:IntKind} (hx:dg f x= .pointer (some ⟨b,o,none⟩)) (hy:dg f y= .int k j) (hT:Lm P t=some (n,sz)) (h0:0≤j) (h1:j<n):
  (execOp (dg f) ⟨d, .indexAddr t x y,ty,ps,af,g⟩).run P w= .ok (.value (.pointer (some ⟨b,o+j.toNat*sz,none⟩))) w:=by
 unfold Lm at hT
 cases hu:P.underlying t with
 |none=>simp[hu]at hT
 |some desc=>
  cases desc<;>simp[hu]at hT
  obtain⟨i,hi,rfl,rfl⟩:=hT
  simp[execOp,hx,hy,Instr.indexAt,run_underlying hu,asIntOf,Instr.sureAddr,h0,h1,sizeOf,typeInfo,hi,hU]
def CL (v:Value):Option Addr:=match v with| .slice a _ _=>a|_=>none
def uc (v:Value):Nat:=match v with| .slice (some a) _ _=>a.block|_=>0
def D6 (v:Value):Nat:=match v with| .slice (some a) _ _=>a.off|_=>0
def iZ (v:Value):Nat:=match v with| .slice _ _ c=>c|_=>0
end
structure Sl (w:World) (sz:Nat) (v:Value) (n:Nat) (xs:List Value):Prop where
 form:∃a,v= .slice a n (iZ v)∧n≤iZ v∧(a=none→iZ v=0)∧∀a',a=some a'→0<iZ v→a'=⟨uc v,D6 v,none⟩
 len:xs.length=n*sz
 cell:∀j u,xs[j]? =some u→w.cell? ⟨uc v,D6 v+j,none⟩=some u
section
variable {w w':World} {sz n:Nat} {v:Value} {xs:List Value}
theorem Sl.nil (w:World) (sz:Nat):Sl w sz (.slice none 0 0) 0 []:=⟨⟨none,rfl,am _,λ_=>rfl,λ_ h _=>by cases h⟩,by simp,λj u h=>by simp at h⟩
theorem dz.sl (h:dz w w') (k:Sl w sz v n xs):Sl w' sz v n xs:=⟨k.form,k.len,λj u hu=>h.cell (k.cell j u hu)⟩
theorem Sl.eqn (k:Sl w sz v n xs) (hn:0<n):v= .slice (some ⟨uc v,D6 v,none⟩) n (iZ v):=by
 obtain⟨a,e,h1,h2,h3⟩:=k.form
 cases a with
 |none=>have:=h2 rfl;omega
 |some a'=>
  rw[h3 a' rfl (by omega)]at e
  exact e
theorem acC {N:Nat} {T:TypeId} (h:w.ownsRow N T sz v n xs):Sl w sz v n xs:=by
 obtain⟨hl,h⟩:=h
 rcases h with ⟨rfl,rfl⟩|⟨g,cap,cur,rfl,hg,hh,hnc,hcm,hcs,ht⟩
 ·have:xs=[]:=aar (by simpa using hl)
  subst this
  exact Sl.nil w sz
 ·refine⟨⟨some ⟨g,0,none⟩,rfl,hnc,λh=>(by cases h),λa' h _=>by cases h;rfl⟩,hl,λj u hu=> ?_⟩
  have h1:w.cell? ⟨g,0+j,none⟩=some u:=by
   rw[aa1,cell_of_row w g j cur T (0,0) hh]
   rw[←ht,ab0]at hu
   split at hu
   ·simpa using hu
   ·cases hu
  exact h1
theorem dz.own {N:Nat} {T:TypeId} (h:dz w w') (k:w.ownsRow N T sz v n xs):w'.ownsRow N T sz v n xs:=k.kept (h.grown none) (by cases v.ownBlock<;>simp)
theorem pA {N b:Nat} {T T':TypeId} {c:Array Value} (k:w.ownsRow N T sz v n xs) (hm:At w b c T') (hT:T'≠T):some b≠v.ownBlock:=by
 intro e
 rcases k.2 with ⟨rfl,rfl⟩|⟨g,cap,cur,rfl,hg,hh,_⟩
 ·simp[Value.ownBlock]at e
 ·simp[Value.ownBlock]at e
  subst e
  unfold At at hm
  rw[hm]at hh
  simp only[Option.some.injEq,Obj.cells.injEq]at hh
  exact hT hh.2.1
theorem F2 {N N':Nat} {T T':TypeId} {sz' n':Nat} {v':Value} {xs':List Value} (k:w.ownsRow N T sz v n xs) (k':w.ownsRow N' T' sz' v' n' xs') (hT:T'≠T):v'.ownBlock=none∨v'.ownBlock≠v.ownBlock:=by
 rcases k'.2 with ⟨rfl,rfl⟩|⟨g,cap,cur,rfl,hg,hh,_⟩
 ·exact .inl rfl
 ·exact .inr (pA k (b:=g) (c:=cur) (T':=T') hh hT)
end
section
variable {P:Program} {f:Nat→Value} {w:World} {d:Option Nat} {ty:TypeId} {ps:String} {af:Array Edge} {g:Option (Nat×Bool)} {x y:Operand}
variable {t:TypeId} {b o:Nat} {v u:Value} {c:Array Value} {T e:TypeId} {K:Value→World→Prop} {n sz by_:Nat} {xs ys:List Value}
theorem df {j:Int} {k:IntKind} {w0:World} (hx:dg f x=v) (hs:Sl w0 sz v n xs) (hy:dg f y= .int k j) (hT:fj P t=some (e,sz,by_)) (h0:0≤j) (h1:j<n):
  (execOp (dg f) ⟨d, .indexAddr t x y,ty,ps,af,g⟩).run P w= .ok (.value (.pointer (some ⟨uc v,D6 v+j.toNat*sz,none⟩))) w:=by
 unfold fj at hT
 have hv:=hs.eqn (by omega)
 cases hu:P.underlying t with
 |none=>simp[hu]at hT
 |some desc=>
  cases desc<;>simp[hu]at hT
  obtain⟨i,hi,rfl,rfl,rfl⟩:=hT
  generalize uc v=B at*
  generalize D6 v=O at*
  generalize iZ v=C at*
  subst hv
  simp[execOp,hx,hy,Instr.indexAt,run_underlying hu,asIntOf,h0,h1,sizeOf,typeInfo,hi,hU]
theorem cT {w0:World} {k:TypeId} {by2:Nat×Nat} (hx:dg f x=v) (hs:Sl w0 sz v n xs) (hT:fj P t=some (k,by2)):
  (execOp (dg f) ⟨d, .call ⟨.builtin .len,#[x],#[t]⟩,ty,ps,af,g⟩).run P w= .ok (.value (.int .i64 (n:Int))) w:=by
 unfold fj at hT
 obtain⟨a,hv,_⟩:=hs.form
 cases hu:P.underlying t with
 |none=>simp[hu]at hT
 |some desc=>
  cases desc<;>simp[hu]at hT
  generalize iZ v=C at*
  subst hv
  simp[execOp,resolve,invoke,builtin,hx,Builtin.len_,run_underlying hu,goInt]
theorem KE (l:List Value):∀(k:Nat) (cs:Array Value),k+l.length≤cs.size→
  (l.zipIdx k).foldl (λcs (p:Value×Nat)=>cs.setIfInBounds (0+p.2) p.1) cs=(cs.toList.take k++l++cs.toList.drop (k+l.length)).toArray:=by
 induction l with
 |nil=>intro k cs _;simp
 |cons u r ih=>
  intro k cs h
  simp only[aak]at h
  rw[List.zipIdx_cons,abO,ih (k+1) _ iq]
  have:=list_seg_step cs.toList k u r (by simpa using h)
  simp only[aa1,Array.toList_setIfInBounds]
  rw[this]
  rfl
theorem Ml (u:Value) (z:Array Value) (sz:Nat) (hu:u.cells.size=sz) (hz:z.size=sz):Instr.fill (λi=>some (i*sz,sz)) z [(0,u)]=some u.cells:=by
 have h:=KE u.cells.toList 0 z (by simp[hu,hz])
 have e0:z.toList.drop (0+u.cells.toList.length)=[]:=List.drop_of_length_le (by simp[hu,hz])
 rw[e0]at h
 simp only[List.take_zero,aaM,aaT,Array.toArray_toList]at h
 simp only[Instr.fill,hu,abb,aa1,hz,ne_eq,not_true_eq_false,decide_false,Nat.lt_irrefl,gt_iff_lt,Bool.or_self,abq,if_false]
 rw[←Array.foldl_toList,Array.toList_zipIdx]
 simp only[aa1]at h
 rw[h]
theorem eK (hx:dg f x=u) (hT:fj P t=some (e,sz,by_)) (hz:(dT P e).map (λz=>z.cells.size)=some sz) (hu:u.cells.size=sz) (hsz:0<sz) (hsz2:sz≤100)
  (hK:∀b w',b=w.heap.size→dz w w'→At w' b u.cells e→K (.slice (some ⟨b,0,none⟩) 1 1) w'):Yd P ⟨d, .buildSlice t 1 #[(0,x)],ty,ps,af,g⟩ f w K:=by
 obtain⟨z,hz,hzs⟩:=go.1 hz
 unfold dT at hz
 obtain⟨i,hi,hzz⟩:=Do.1 hz
 unfold fj at hT
 cases hun:P.underlying t with
 |none=>simp[hun]at hT
 |some desc=>
  cases desc<;>simp[hun]at hT
  rename_i e'
  obtain⟨i',hi',rfl,h1,rfl⟩:=hT
  obtain rfl:i'=i:=by rw[hi]at hi';exact(Z9 hi').symm
  refine .val (w':=w.alloc (.cells u.cells e')) ?_ (hK w.heap.size _ rfl (dz.alloc w _) (mz w _ _))
  have hbig:¬16777216<sz:=by omega
  have hne:¬sz=0:=by omega
  have hf:=Ml u ((Array.range sz).map (z.cells[·%z.cells.size]!)) sz hu gj
  simp[execOp,hx,Instr.buildSlice,run_underlying hun,sizeOf,typeInfo,hi,h1,zeroValue,hzz,hne,hbig,newRow,hf]
theorem dZ {N m:Nat} {v2:Value} (hx:dg f x=v) (hy:dg f y=v2) (hT:fj P t=some (e,sz,by_)) (hz:(dT P e).map (λz=>z.cells.size)=some sz) (hsz:0<sz)
  (ho:w.ownsRow N e sz v n xs) (hs:Sl w sz v2 m ys) (h10:ys.all Value.oneCell'=true) (hN:N≤w.heap.size) (hb:(n+m)*by_≤140737488355328) (hm:n+m≤9223372036854775807)
  (hK:∀v' w',w.grownBy w' v.ownBlock→w'.ownsRow N e sz v' (n+m) (xs++ys)→K v' w'):Yd P ⟨d, .call ⟨.builtin .append,#[x,y],#[t,t]⟩,ty,ps,af,g⟩ f w K:=by
 have h1:∀u∈ys,u.oneCell'=true:=λu h=>aaj.1 h10 u h
 obtain⟨z,hz,hzs⟩:=go.1 hz
 unfold dT at hz
 obtain⟨i,hi,hzz⟩:=Do.1 hz
 unfold fj at hT
 cases hun:P.underlying t with
 |none=>simp[hun]at hT
 |some desc=>
  cases desc<;>simp[hun]at hT
  rename_i e'
  obtain⟨i',hi',rfl,h3,rfl⟩:=hT
  obtain rfl:i'=i:=by rw[hi]at hi';exact(Z9 hi').symm
  by_cases hm0:m=0
  ·subst hm0
   have hys:ys=[]:=aar (by simpa using hs.len)
   subst hys
   have hrun:(Builtin.append_ #[t,t] ty #[v,v2]).run P w= .ok v w:=by
    obtain⟨a2,hv2,_⟩:=hs.form
    generalize iZ v2=c2 at hv2
    subst hv2
    rcases ho.2 with ⟨rfl,rfl⟩|⟨q,cap,cur,rfl,hg,hh,hnc,hcm,hcs,ht⟩
    ·simp[Builtin.append_,run_underlying hun,sizeOf,typeInfo,hi,Builtin.lenOf,Builtin.firstCells]
     cases a2<;>simp[loadCells,loadCellsFrom]
    ·cases a2<;>simp[Builtin.append_,run_underlying hun,sizeOf,typeInfo,hi,Builtin.lenOf,Builtin.firstCells,loadCells,loadCellsFrom,hnc,storeCells]
   refine .val (v:=v) (w':=w) ?_ (hK v w (World.grownBy.refl w _) (by simpa using ho))
   simp[execOp,resolve,invoke,builtin,hx,hy,hrun]
  ·have hv2:=hs.eqn (by omega)
   have hcell:=hs.cell
   generalize uc v2=B at*
   generalize D6 v2=O at*
   generalize iZ v2=C at*
   subst hv2
   obtain⟨v',w',hr,h4,h5,_⟩:=run_append_own (P:=P) w N t ty e' i' z sz i'.bytes hun hi hzz h3 rfl hzs hsz v n xs ho ⟨B,O,none⟩ m C ys hs.len
    (λj u hu=>by rw[hU];exact hcell j u hu) h1 (by simpa [maxLen] using hm) hb hN
   refine .val (v:=v') (w':=w') ?_ (hK v' w' h5 h4)
   simp[execOp,resolve,invoke,builtin,hx,hy,hr]
end
theorem acD {w W:World} {sz n:Nat} {v:Value} {xs:List Value} (h:Below w.heap.size w W) (k:Sl w sz v n xs):Sl W sz v n xs:=
 ⟨k.form,k.len,λj u hu=>by have hc:=k.cell j u hu;rw[Below.cell h (World.block_lt_of_cell? w _ hc)];exact hc⟩
theorem On {w W:World} {b:Nat} {c:Array Value} {T:TypeId} (h:Below w.heap.size w W) (k:At w b c T):At W b c T:=by
 unfold At;rw[Below.block h b k.lt];exact k
theorem eT {w:World} {b sz:Nat} {c:Array Value} {T:TypeId} (k:At w b c T) (hs:c.size=sz):Sl w sz (.slice (some ⟨b,0,none⟩) 1 1) 1 c.toList:=
 ⟨⟨some ⟨b,0,none⟩,rfl,am _,λh=>(by cases h),λa' h _=>by cases h;rfl⟩,by simp[hs],λj u hu=>by
  show w.cell? ⟨b,0+j,none⟩=some u
  rw[aa1]
  exact k.cell (by simpa using hu)⟩
theorem vg {α:Type} {enc:α→List Value} {sz:Nat} (he:∀a,(enc a).length=sz):∀(l:List α) (k r:Nat) (d:α),k<l.length→r<sz→(l.flatMap enc)[k*sz+r]? =(enc (l.getD k d))[r]?
 |[],k,r,d,h,_=>by simp at h
 |a::l,0,r,d,_,hr=>by
  rw[aaE,abb,aa1,aaK (by rw[he];exact hr)]
  rfl
 |a::l,k+1,r,d,h,hr=>by
  have h1:sz≤(k+1)*sz+r:=by rw[aaR];omega
  rw[aaE,aaI (by rw[he];exact h1),he]
  have e:(k+1)*sz+r-sz=k*sz+r:=by rw[aaR];omega
  rw[e,vg he l k r d (by simpa using h) hr]
  simp
theorem kn {α:Type} {enc:α→List Value} {sz:Nat} (he:∀a,(enc a).length=sz) (l:List α):(l.flatMap enc).length=l.length*sz:=by
 induction l with
 |nil=>simp
 |cons a l ih=>rw[aaE,An,ih,he,aak,aaR];omega
def dh {α:Type} (enc:α→List Value) (sz:Nat) (w:World) (v:Value) (l:List α):Prop:=Sl w sz v l.length (l.flatMap enc)
def cD {α:Type} (enc:α→List Value) (sz:Nat) (T:TypeId) (w:World) (N:Nat) (v:Value) (l:List α):Prop:=w.ownsRow N T sz v l.length (l.flatMap enc)
section
variable {α:Type} {enc:α→List Value} {sz:Nat} {T:TypeId} {w w':World} {N:Nat} {v:Value} {l:List α}
theorem cD.sl (h:cD enc sz T w N v l):dh enc sz w v l:=acC h
theorem dh.nil:dh enc sz w (.slice none 0 0) []:=Sl.nil w sz
theorem cD.nil:cD enc sz T w N (.slice none 0 0) []:=World.ownsRow_nil w N T sz
theorem dz.slT (h:dz w w') (k:dh enc sz w v l):dh enc sz w' v l:=dz.sl h k
instance {w w':World}:Kp w w' (dh enc sz w v l) (dh enc sz w' v l):=⟨dz.slT⟩
theorem dz.ow (h:dz w w') (k:cD enc sz T w N v l):cD enc sz T w' N v l:=dz.own h k
instance {w w':World} {N:Nat} {T:TypeId}:Kp w w' (cD enc sz T w N v l) (cD enc sz T w' N v l):=⟨dz.ow⟩
theorem Below.slT {W:World} (h:Below w.heap.size w W) (k:dh enc sz w v l):dh enc sz W v l:=acD h k
theorem cD.mono {N':Nat} (k:cD enc sz T w N v l) (h:N'≤N):cD enc sz T w N' v l:=by
 refine⟨k.1,?_⟩
 rcases k.2 with h2|⟨g,cap,cur,h3,hg,r⟩
 ·exact .inl h2
 ·exact .inr ⟨g,cap,cur,h3,an h hg,r⟩
theorem cD.lt (k:cD enc sz T w N v l):∀j,v.ownBlock=some j→N≤j:=λj hj=>(World.ownsRow.lt k j hj).1
theorem dh.cell (hs:dh enc sz w v l) (he:∀a,(enc a).length=sz) (d:α) {j:Int} (h0:0≤j) (h1:j<l.length) (r:Nat) {u:Value} (hu:(enc (l.getD j.toNat d))[r]? =some u):
  w.cell? ⟨uc v,D6 v+j.toNat*sz+r,none⟩=some u:=by
 have hr:r<sz:=by
  have:=(aaV.1 hu).1
  rwa [he]at this
 have h:=Sl.cell hs (j.toNat*sz+r) u (by rw[vg he l j.toNat r d (by omega) hr];exact hu)
 rwa [←Nat.add_assoc]at h
theorem cD.snoc {x:α} {n m:Nat} {xs ys:List Value} (hn:n=l.length) (hm:m=1) (hx:xs=l.flatMap enc) (hy:ys=enc x) (h:w.ownsRow N T sz v (n+m) (xs++ys)):cD enc sz T w N v (l++[x]):=by
 subst hn hm hx hy
 unfold cD
 rw[An,List.flatMap_append]
 simpa using h
theorem cD.app {l2:List α} {n m:Nat} {xs ys:List Value} (hn:n=l.length) (hm:m=l2.length) (hx:xs=l.flatMap enc) (hy:ys=l2.flatMap enc) (h:w.ownsRow N T sz v (n+m) (xs++ys)):cD enc sz T w N v (l++l2):=by
 subst hn hm hx hy
 unfold cD
 rw[An,List.flatMap_append]
 exact h
theorem cD.grownAt {b:Nat} {c:Array Value} {T':TypeId} (k:cD enc sz T w N v l) (hm:At w b c T') (hG:w.grownBy w' (some b)) (hT:T'≠T):cD enc sz T w' N v l:=
 World.ownsRow.kept k hG (.inr (λe=>pA k hm hT e.symm))
theorem At.grownOw {b:Nat} {c:Array Value} {T':TypeId} (hm:At w b c T') (k:cD enc sz T w N v l) (hG:w.grownBy w' v.ownBlock) (hT:T'≠T):At w' b c T':=
 hm.grown hG (pA k hm hT)
theorem cD.grownOw {β:Type} {enc':β→List Value} {sz':Nat} {T':TypeId} {N':Nat} {v':Value} {l':List β} (k':cD enc' sz' T' w N' v' l') (k:cD enc sz T w N v l) (hG:w.grownBy w' v.ownBlock) (hT:T'≠T):cD enc' sz' T' w' N' v' l':=
 World.ownsRow.kept k' hG (F2 k k' hT)
theorem At.grownAt {b b':Nat} {c c':Array Value} {T':TypeId} (hm:At w b c T) (hm':At w b' c' T') (hG:w.grownBy w' (some b')) (hT:T≠T'):At w' b c T:=
 hm.grown hG (λe=>aco hm hm' hT (Z9 e))
theorem At.grownNe {b b':Nat} {c:Array Value} (hm:At w b c T) (hne:b≠b') (hG:w.grownBy w' (some b')):At w' b c T:=
 hm.grown hG (λe=>hne (Z9 e))
end
def m6 (vs:List Value) (k:Nat):Nat→Value:=
 match vs with
 |[]=>λ_=>undef
 |v::r=>upd (m6 r (k+1)) k v
def Yu (P:Program) (f:Nat→Value) (w:World) (rs:Array ResultVar) (v:Value):Prop:=
 ∀(tmps:Array Value) (fn:Func),(∀t,tmps.getD t undef=f t)→fn.results=rs→(results fn tmps).run P w= .ok v w
def mt (P:Program) (rs:Array ResultVar) (Post:Value→World→Prop):Exit→(Nat→Value)→World→Prop
 | .ret,f,w| .normal,f,w=>∃v,Yu P f w rs v∧Post v w
 |_,_,_=>False
theorem ES (vs:List Value):∀(k t:Nat),k≤t→m6 vs k t=vs.getD (t-k) undef:=by
 induction vs with
 |nil=>intro k t _;rfl
 |cons v r ih=>
  intro k t h
  by_cases e:t=k
  ·subst e;rw[m6,zw];simp
  ·rw[m6,Dt _ _ e,ih (k+1) t (by omega)]
   have e2:t-k=(t-(k+1))+1:=by omega
   rw[e2];simp
structure mS (P:Program) (g:Nat) (vs:Array Value) (w:World) (Post:Value→World→Prop):Prop where
 out:Calls P g vs w λe w'=>∃v,e= .returned v∧Post v w'
theorem rI {P:Program} {g:Nat} {fn:Func} {c:Code} {n:Nat} {vs:List Value} {w:World} {Post:Value→World→Prop} (hf:P.funcs[g]? =some fn) (hb:fn.body=some c) (hn:fn.ntmps=n) (hv:vs.length≤n)
  (h:WC P n c (mt P fn.results Post) (m6 vs 0) w):mS P g vs.toArray w Post:=by
 refine⟨?_⟩
 refine calls_of_wp hf hb ?_
 subst hn
 have hr:Dv fn.ntmps (m6 vs 0) {tmps:=vs.toArray++Array.replicate (fn.ntmps-vs.toArray.size) undef,defers:=[]}:=by
  refine⟨rfl,by simp;omega,λt=> ?_⟩
  rw[ES vs 0 t (my _),abK]
  simp only[aaX,Array.getElem?_append,List.size_toArray,List.getElem?_toArray,Array.getElem?_replicate,List.getD]
  split
  ·rfl
  ·rename_i hge
   rw[List.getElem?_eq_none (by omega)]
   split<;>rfl
 refine Code.wp_mono (λe a w' hq=> ?_) (h.out _ hr)
 obtain⟨f',hr',hq⟩:=hq
 cases e with
 |ret=>
  obtain⟨v,h1,h2⟩:=hq
  exact⟨hr'.defers,v,h1 _ fn hr'.get rfl,v,rfl,h2⟩
 |normal=>
  obtain⟨v,h1,h2⟩:=hq
  exact⟨hr'.defers,v,h1 _ fn hr'.get rfl,v,rfl,h2⟩
 |exit id=>exact hq.elim
 |goto l=>exact hq.elim
 |panic c=>exact hq.elim
 |outgrown=>exact hq.elim
theorem Mk {P:Program} {g:Nat} {fn:Func} {c:Code} {n:Nat} {vs:List Value} {w:World} {Post:Value→World→Prop} (hf:P.funcs[g]? =some fn) (hb:fn.body=some c) (hn:fn.ntmps=n) (hv:vs.length≤n)
  (h:WC P n c (mt P fn.results λv w'=>dz w w'∧Post v w') (m6 vs 0) w):Fn P g vs.toArray w Post:=⟨(rI hf hb hn hv h).out⟩
theorem cH {P:Program} {g:Nat} {fn:Func} {c:Code} {n:Nat} {vs:List Value} {w:World} {Post:Value→World→Prop} (hf:P.funcs[g]? =some fn) (hb:fn.body=some c) (hn:fn.ntmps=n) (hv:Nat.ble vs.length n=true)
  (h:Below w.heap.size w w→WC P n c (mt P fn.results λv w'=>dz w w'∧Post v w') (m6 vs 0) w):Fn P g vs.toArray w Post:=Mk hf hb hn (ab3 hv) (h (Below.refl _ _))
theorem d5 {P:Program} {g:Nat} {fn:Func} {c:Code} {n:Nat} {vs:List Value} {w:World} {Post:Value→World→Prop} {N:Nat} (hf:P.funcs[g]? =some fn) (hb:fn.body=some c) (hn:fn.ntmps=n) (hv:Nat.ble vs.length n=true)
  (h:Below N w w→WC P n c (mt P fn.results Post) (m6 vs 0) w):mS P g vs.toArray w Post:=rI hf hb hn (ab3 hv) (h (Below.refl _ _))
section
variable {P:Program} {f:Nat→Value} {w:World} {t u s r:Nat} {v v1 v2 v3:Value} {Post:Value→World→Prop} {T T' T2 T2':TypeId} {b:Nat} {c:Array Value}
theorem gk {rs:Array ResultVar} (h:mt P rs Post .ret f w):mt P rs Post .normal f w:=h
theorem vt (hp:Post (.tuple #[]) w):mt P #[] Post .ret f w:=by
 refine⟨_,λtmps fn ht hr=> ?_,hp⟩
 simp[results,hr]
theorem cV (h:f t=v) (hp:Post v w):mt P #[.tmp t] Post .ret f w:=by
 refine⟨v,λtmps fn ht hr=> ?_,hp⟩
 rw[←h,←ht t];simp[results,hr]
theorem dL (h:f t=v) (h1:f u=v1) (hp:Post (.tuple #[v,v1]) w):mt P #[.tmp t, .tmp u] Post .ret f w:=by
 refine⟨_,λtmps fn ht hr=> ?_,hp⟩
 rw[←h,←h1,←ht t,←ht u];simp[results,hr]
theorem IW (h:f t=v) (h1:f u=v1) (h2:f s=v2) (hp:Post (.tuple #[v,v1,v2]) w):mt P #[.tmp t, .tmp u, .tmp s] Post .ret f w:=by
 refine⟨_,λtmps fn ht hr=> ?_,hp⟩
 rw[←h,←h1,←h2,←ht t,←ht u,←ht s];simp[results,hr]
theorem Fj (h:f t=v) (h1:f u=v1) (h2:f s=v2) (h3:f r=v3) (hp:Post (.tuple #[v,v1,v2,v3]) w):mt P #[.tmp t, .tmp u, .tmp s, .tmp r] Post .ret f w:=by
 refine⟨_,λtmps fn ht hr=> ?_,hp⟩
 rw[←h,←h1,←h2,←h3,←ht t,←ht u,←ht s,←ht r];simp[results,hr]
theorem nc (hT:j8 P T=some c.size) (hm:At w b c T'):(loadVar T ⟨b,0,none⟩).run P w= .ok (.agg c) w:=by
 have h1:=congrFun (lX hT).1 w
 have h2:=congrFun (lX hT).2 w
 have h3:=run_loadCells_list P w ⟨b,0,none⟩ c.toList 0 #[] (λj u hu=>by rw[hU];simp only[aa1];exact hm.cell (by simpa using hu))
 rw[abW]at h3
 simp[loadVar,h1,h2,loadCells,h3]
theorem jr {k:Nat} (h:f t= .pointer (some ⟨b,0,none⟩)) (hT:j8 P T=some k) (hm:At w b c T') (hk:k=c.size) (hp:Post (.agg c) w):mt P #[.cell t T] Post .ret f w:=by
 refine⟨_,λtmps fn ht hr=> ?_,hp⟩
 have e:=ht t
 rw[h]at e
 have hl:=nc (hk▸hT) hm
 simp only[aaX]at e
 simp[results,hr,e,asAddr,hl]
theorem eI {k:Nat} (h:f t= .pointer (some ⟨b,0,none⟩)) (hT:j8 P T=some k) (hm:At w b c T') (hk:k=c.size) (h1:f u=v1) (hp:Post (.tuple #[.agg c,v1]) w):mt P #[.cell t T, .tmp u] Post .ret f w:=by
 refine⟨_,λtmps fn ht hr=> ?_,hp⟩
 have e:=ht t
 have e1:=ht u
 rw[h]at e
 rw[h1]at e1
 have hl:=nc (hk▸hT) hm
 simp only[aaX]at e e1
 simp[results,hr,e,e1,asAddr,hl]
theorem m8 {k:Nat} (h:f t= .pointer (some ⟨b,0,none⟩)) (hT:j8 P T=some k) (hm:At w b c T') (hk:k=c.size) (h1:f u=v1) (h2:f s=v2) (hp:Post (.tuple #[.agg c,v1,v2]) w):mt P #[.cell t T, .tmp u, .tmp s] Post .ret f w:=by
 refine⟨_,λtmps fn ht hr=> ?_,hp⟩
 have e:=ht t
 have e1:=ht u
 have e2:=ht s
 rw[h]at e
 rw[h1]at e1
 rw[h2]at e2
 have hl:=nc (hk▸hT) hm
 simp only[aaX]at e e1 e2
 simp[results,hr,e,e1,e2,asAddr,hl]
end
end
section
open Go Go.RowKit
def wd (s i:Nat):Nat:=s/2^(64*i)%2^64
abbrev wv (s i:Nat):Value:= .int .u64 ((wd s i:Nat):Int)
abbrev eb (s:Nat):Value:= .agg #[wv s 0,wv s 1,wv s 2,wv s 3]
structure Cb where
 m:Nat
 v:Nat
 deriving DecidableEq,Repr
structure Rw where
 c:Cb
 o:Nat
 deriving DecidableEq,Repr
def Qe (b:Bool):List Value:=[.bool b]
def dJ (z:Int):List Value:=[.int .i64 z]
def im (c:Cb):List Value:=[.int .u8 (c.m:Int), .int .u8 (c.v:Int)]
def gv (r:Rw):List Value:=[.int .u8 (r.c.m:Int), .int .u8 (r.c.v:Int), .int .u8 (r.o:Int)]
def fT (s:Nat):List Value:=[wv s 0,wv s 1,wv s 2,wv s 3]
theorem wl (s i:Nat):wd s i<18446744073709551616:=aaS _ (by decide)
theorem Nb (s i:Nat):wd s i<ip .u64:=wl s i
theorem jn (s i j:Nat):(wd s i).testBit j=(decide (j<64)&&s.testBit (64*i+j)):=by
 unfold wd
 rw[Nat.testBit_mod_two_pow,Nat.testBit_div_two_pow,Nat.add_comm]
theorem PI {s t:Nat} (hs:s<2^256) (ht:t<2^256) (h0:wd s 0=wd t 0) (h1:wd s 1=wd t 1) (h2:wd s 2=wd t 2) (h3:wd s 3=wd t 3):s=t:=by
 refine Z7 λp=> ?_
 by_cases hp:p<256
 ·have key:∀i,wd s i=wd t i→p/64=i→s.testBit p=t.testBit p:=λi h e=>by
   have h5:=congrArg (λx=>x.testBit (p%64)) h
   simp only[jn]at h5
   have e2:64*i+p%64=p:=by omega
   rw[e2]at h5
   simpa [aaS] using h5
  have:p/64=0∨p/64=1∨p/64=2∨p/64=3:=by omega
  rcases this with e|e|e|e
  ·exact key 0 h0 e
  ·exact key 1 h1 e
  ·exact key 2 h2 e
  ·exact key 3 h3 e
 ·have hle:2^256≤2^p:=aaf (by decide) (by omega)
  rw[abf (aao hs hle),abf (aao ht hle)]
theorem kI {s i x:Nat} (hx:x<2^64) (h:∀j,j<64→x.testBit j=s.testBit (64*i+j)):wd s i=x:=by
 refine Z7 λj=> ?_
 rw[jn]
 by_cases hj:j<64
 ·simp[hj,h j hj]
 ·have hle:2^64≤2^j:=aaf (by decide) (by omega)
  simp[hj,abf (aao hx hle)]
theorem TM (s t i:Nat):wd (s ||| t) i=wd s i ||| wd t i:=
 kI (Nat.or_lt_two_pow (wl s i) (wl t i)) λj hj=>by simp[aaP,jn,hj]
theorem VN (s t i:Nat):wd (s &&& t) i=wd s i &&& wd t i:=
 kI (Nat.and_lt_two_pow _ (wl t i)) λj hj=>by simp[aad,jn,hj]
theorem Lq (s t i:Nat):wd (andNot s t) i=andNot (wd s i) (wd t i):=
 kI (aaw (rX _ _) (wl s i)) λj hj=>by simp[dU,jn,hj]
def mM (p:Int):Bool:=decide (0≤p)&&decide (p<256)
def vM (s:Nat) (p:Int):Bool:=mM p&&s.testBit p.toNat
def mX (s:Nat) (p:Int):Nat:=if mM p then s ||| 2^p.toNat else s
theorem Uj (p i:Nat):wd (2^p) i=if p/64=i then 2^(p%64)else 0:=by
 split
 ·rename_i e
  refine kI (abv (by decide) (aaS _ (by decide))) λj hj=> ?_
  rw[aas,aas]
  congr 1
  refine propext ?_
  omega
 ·rename_i e
  refine kI (by decide) λj hj=> ?_
  rw[aaF,aas]
  symm
  rw[decide_eq_false_iff_not]
  omega
theorem Sw (x j:Nat):x &&& 2^j=if x.testBit j then 2^j else 0:=by
 refine Z7 λi=> ?_
 rw[aad,aas]
 by_cases e:j=i
 ·subst e
  cases h:x.testBit j<;>simp
 ·cases h:x.testBit j<;>simp[e]
theorem yv (b:Bool):(Qe b).length=1:=rfl
theorem dI (z:Int):(dJ z).length=1:=rfl
theorem gr (c:Cb):(im c).length=2:=rfl
theorem eh (r:Rw):(gv r).length=3:=rfl
theorem dE (s:Nat):(fT s).length=4:=rfl
theorem uS (s i:Nat) (h:i<4):(#[wv s 0,wv s 1,wv s 2,wv s 3]:Array Value)[0+((i:Nat):Int).toNat*1]? =some (wv s i):=by
 have:i=0∨i=1∨i=2∨i=3:=by omega
 rcases this with rfl|rfl|rfl|rfl<;>rfl
theorem Nw {s s' i x:Nat} (h:i<4) (hs:∀j,j<4→wd s' j=if j=i then x else wd s j):
  (#[wv s 0,wv s 1,wv s 2,wv s 3]:Array Value).setIfInBounds (0+((i:Nat):Int).toNat*1) (.int .u64 (x:Int))= #[wv s' 0,wv s' 1,wv s' 2,wv s' 3]:=by
 have h0:=hs 0 (by decide)
 have h1:=hs 1 (by decide)
 have h2:=hs 2 (by decide)
 have h3:=hs 3 (by decide)
 unfold wv
 rw[h0,h1,h2,h3]
 have:i=0∨i=1∨i=2∨i=3:=by omega
 rcases this with rfl|rfl|rfl|rfl<;>rfl
theorem N0 {s q:Nat} (hq:q<256):∀j,j<4→wd (mX s q) j=if j=q/64 then wd s (q/64) ||| 2^(q%64)else wd s j:=by
 intro j _
 have hm:mM (q:Int)=true:=by simp[mM];omega
 simp only[mX,hm,if_true,so,TM,Uj]
 by_cases e:j=q/64
 ·subst e;simp
 ·rw[if_neg (λh=>e h.symm),if_neg e];simp
theorem Ka {s q:Nat} (hq:q<256):decide ((0:Int)<((wd s (q/64) &&& 2^(q%64):Nat):Int))=vM s q:=by
 have hm:mM (q:Int)=true:=by simp[mM];omega
 rw[Sw,jn]
 have e:64*(q/64)+q%64=q:=by omega
 simp only[vM,hm,aax,so,e,aaS q (show 64>0 by decide),decide_true]
 cases h:s.testBit q with
 |false=>simp
 |true=>
  have:=aaz (q%64)
  simp
  exact_mod_cast this
def Gh (op:Nat→Nat→Nat) (s t k:Nat):Array Value:=
 #[.int .u64 ((if 0<k then op (wd s 0) (wd t 0)else 0:Nat):Int), .int .u64 ((if 1<k then op (wd s 1) (wd t 1)else 0:Nat):Int),
  .int .u64 ((if 2<k then op (wd s 2) (wd t 2)else 0:Nat):Int), .int .u64 ((if 3<k then op (wd s 3) (wd t 3)else 0:Nat):Int)]
theorem Kl (op:Nat→Nat→Nat) (s t k:Nat):(Gh op s t k).size=4:=rfl
theorem NF (op:Nat→Nat→Nat) (s t k:Nat) (h:k<4):(Gh op s t k).setIfInBounds (0+((k:Nat):Int).toNat*1) (.int .u64 ((op (wd s k) (wd t k):Nat):Int))=Gh op s t (k+1):=by
 have:k=0∨k=1∨k=2∨k=3:=by omega
 rcases this with rfl|rfl|rfl|rfl<;>rfl
theorem zn {op:Nat→Nat→Nat} {s t r:Nat} (h:∀j,wd r j=op (wd s j) (wd t j)):Value.agg (Gh op s t 4)=eb r:=by
 simp[Gh,h]
theorem y6 {s k:Nat} (h:k<256):vM s (k:Int)=s.testBit k:=by
 have hm:mM (k:Int)=true:=by simp[mM];omega
 simp[vM,hm]
def d7 (s:Nat):List Int:=((List.range 256).filter λp:Nat=>s.testBit p).map λp:Nat=>(p:Int)
def tH (s k:Nat):List Int:=((List.range k).filter λp:Nat=>s.testBit p).map λp:Nat=>(p:Int)
theorem wy (s k:Nat):tH s (k+1)=if s.testBit k then tH s k++[(k:Int)]else tH s k:=by
 unfold tH
 rw[abN,abI,abh]
 cases h:s.testBit k<;>simp[h]
theorem s8 (s k:Nat):(tH s k).length≤k:=by
 unfold tH
 rw[aaD]
 exact an (abJ _ _) gj
theorem jw {s:Nat} {x:Int}:x∈d7 s↔∃p:Nat,p<256∧s.testBit p=true∧x=p:=by
 simp only[d7,aag,aaN,aam]
 constructor
 ·rintro⟨p,⟨h1,h2⟩,rfl⟩;exact⟨p,h1,h2,rfl⟩
 ·rintro⟨p,h1,h2,rfl⟩;exact⟨p,⟨h1,h2⟩,rfl⟩
theorem lZ (s:Nat):(d7 s).length≤256:=s8 s 256
theorem dy {α:Type} {l:List α} {i:Nat} {d:α} (h:i<l.length):l.getD i d∈l:=by
 simp only[me,th h,Option.getD_some]
 exact List.getElem_mem h
theorem lV {s i:Nat} (h:i<(d7 s).length):∃p:Nat,p<256∧s.testBit p=true∧(d7 s).getD i 0=p:=jw.1 (dy h)
def fh (n:Nat):Nat:=2^2^n-1
def tF (k:Nat):Nat:=2^k-1
theorem zo (k p:Nat):(tF k).testBit p=decide (p<k):=ab1 k p
theorem fw (n p:Nat):(fh n).testBit p=decide (p<2^n):=ab1 _ p
theorem CK {k:Nat} (h:k<256):mX (tF k) (k:Int)=tF (k+1):=by
 have hm:mM (k:Int)=true:=by simp[mM];omega
 refine Z7 λp=> ?_
 simp only[mX,hm,if_true,so,aaP,zo,aas]
 rw[aaA]
 simp
 omega
def qo (s i:Nat) (one:Bool):Nat:=(d7 s).foldl (λo p=>if decide (p.toNat/2^i%2=1)==one then mX o p else o) 0
def eO (s t:Nat):Bool:=decide (wd (andNot s t) 0=0∧wd (andNot s t) 1=0∧wd (andNot s t) 2=0∧wd (andNot s t) 3=0)
theorem Sy (i:Nat):wd 0 i=0:=by simp[wd]
theorem GT {s i:Nat}:wd s i=0↔∀j,j<64→s.testBit (64*i+j)=false:=by
 constructor
 ·intro h j hj
  have h2:=jn s i j
  rw[h,aaF]at h2
  simpa [hj] using h2.symm
 ·intro h
  refine kI (by decide) λj hj=> ?_
  rw[h j hj,aaF]
theorem d4 {s t:Nat}:eO s t=true↔∀p,p<256→s.testBit p=true→t.testBit p=true:=by
 simp only[eO,decide_eq_true_eq,GT,dU]
 constructor
 ·rintro⟨h0,h1,h2,h3⟩ p hp hs
  have key:∀i,p/64=i→(∀j,j<64→(s.testBit (64*i+j)&& !t.testBit (64*i+j))=false)→t.testBit p=true:=λi e h=>by
   have h5:=h (p%64) (aaS _ (by decide))
   have e2:64*i+p%64=p:=by omega
   rw[e2,hs]at h5
   simpa using h5
  have:p/64=0∨p/64=1∨p/64=2∨p/64=3:=by omega
  rcases this with e|e|e|e
  ·exact key 0 e h0
  ·exact key 1 e h1
  ·exact key 2 e h2
  ·exact key 3 e h3
 ·intro h
  have key:∀i,i<4→∀j,j<64→(s.testBit (64*i+j)&& !t.testBit (64*i+j))=false:=λi hi j hj=>by
   have h5:=h (64*i+j) (by omega)
   cases hs:s.testBit (64*i+j)with
   |false=>rfl
   |true=>simp[h5 hs]
  exact⟨key 0 (by decide),key 1 (by decide),key 2 (by decide),key 3 (by decide)⟩
def oQ (l:List Int) (i:Nat) (one:Bool) (k:Nat):Nat:=(l.take k).foldl (λo p=>if (decide (p.toNat/2^i%2=1)==one)=true then mX o p else o) 0
theorem ww {l:List Int} {i k:Nat} {one:Bool} (h:k<l.length):
  oQ l i one (k+1)=if (decide ((l.getD k 0).toNat/2^i%2=1)==one)=true then mX (oQ l i one k) (l.getD k 0)else oQ l i one k:=by
 unfold oQ
 rw[abE h,List.foldl_append]
 simp[me,th h]
theorem Ni (s i:Nat) (one:Bool):qo s i one=oQ (d7 s) i one (d7 s).length:=by
 unfold qo oQ
 rw[aan]
theorem px (x:Nat):x &&& 1=x%2:=Nat.and_one_is_mod x
theorem Em (q:Nat):decide (((q%2:Nat):Int)=1)=decide (q%2=1):=by
 rw[aaA]
 simp only[decide_eq_true_eq]
 omega
def dC (m v:Nat) (n:Int):Bool:=decide (0≤n)&&(decide (n≤8)&&(decide (m<2^n.toNat)&&decide (andNot v m=0)))
def ou (m v k:Nat):Nat:=
 match k with
 |0=>0
 |k+1=>if k &&& m=v then mX (ou m v k) (k:Int)else ou m v k
def oH (m v n:Nat):Nat:=ou m v (2^n)
def lI (m:Nat) (i:Int):Nat:=if 0≤i∧i<8 then andNot m (2^i.toNat)else m
theorem oO {s k:Nat} (h:k<256) (p:Nat):(mX s (k:Int)).testBit p=(decide (p=k)||s.testBit p):=by
 have hm:mM (k:Int)=true:=by simp[mM];omega
 have e:decide (k=p)=decide (p=k):=by rw[aaA];simp;omega
 simp only[mX,hm,if_true,so,aaP,aas,e]
 exact Bool.or_comm _ _
theorem Ai {m v:Nat}:∀(k:Nat),k≤256→∀p,(ou m v k).testBit p=(decide (p<k)&&decide (p &&& m=v)):=by
 intro k
 induction k with
 |zero=>intro _ p;simp[ou]
 |succ k ih=>
  intro hk p
  have ih':=ih (by omega) p
  simp only[ou]
  split
  ·rename_i h
   rw[oO (by omega),ih']
   by_cases e:p=k
   ·subst e;simp[h]
   ·simp only[e,decide_false,Bool.false_or]
    congr 1
    rw[aaA]
    simp
    omega
  ·rename_i h
   rw[ih']
   by_cases e:p=k
   ·subst e;simp[h]
   ·congr 1
    rw[aaA]
    simp
    omega
theorem fq {n:Int} (h:n≤8):2^n.toNat≤256:=by
 have:2^n.toNat≤2^8:=aaf (by decide) (by omega)
 simpa using this
theorem iM {m v n:Nat} (h:n≤8) (p:Nat):(oH m v n).testBit p=(decide (p<2^n)&&decide (p &&& m=v)):=
 Ai _ (by have:=fq (n:=(n:Int)) (by omega);simpa using this) p
end
section
open Go Go.RowKit Go.ChangeShapes Go.WideShapes Go.ChangeAt Go.Joins
theorem IP {n:Int} (h:(Lit.int .u8 n).wf=true):∃k:Nat,n=k∧k<256:=by
 simp[Lit.wf,IntKind.min,IntKind.max,IntKind.signed,IntKind.bits]at h
 exact⟨n.toNat,by omega,by omega⟩
theorem VJ {n:Int} (h:(Lit.int .i64 n).wf=true): -9223372036854775808≤n∧n≤9223372036854775807:=by
 simp[Lit.wf,IntKind.min,IntKind.max,IntKind.signed,IntKind.bits]at h
 omega
section
variable {H:Type} {enc:TypeId×Value→H} {P:Program} {w:World} {base:Nat} {spare:Nat→Bool} {held:Bool} {r:Reach} {b0:Nat} {t e:TypeId} {v:Value} {d:DataW H} {ps:List MemPlace}
end
section
variable {H:Type} {enc:TypeId×Value→H} {P:Program} {W W':World}
theorem sO (hl:laidOutB P=true) (hE:dz W W') (sp:Nat→Bool):∀{ts:List TypeId} {vs:List Value} {ds:List (DataW H)} {ps:List MemPlace},(ts.all λt=>P.readableRec t&&decide (t<P.types.size))=true→
  DataW.TrodAll enc P W 0 (λ_=>true) true ts vs ds ps→(∀p∈ps,p.block<W.heap.size)→(∀p∈ps,sp p.block=true)→DataW.TrodAll enc P W' 0 sp true ts vs ds ps
 |[],[],[],_,_,h,_,_=>h
 |t::ts,vs,ds,ps,ht,h,hlt,hsp=>by
  obtain⟨v,vs',d,ds',p,q,rfl,rfl,rfl,h1,h2⟩:=trodAll_cons h
  simp only[aa7,we,decide_eq_true_eq]at ht
  refine trodAll_cons_mk (WideElems.Trod_stays hl ht.1.1 ht.1.2 h1 (λx hx=>Below.same hE (hlt x (by simp[hx]))) (λx hx=>hsp x (by simp[hx]))) ?_
  exact sO hl hE sp ht.2 h2 (λx hx=>hlt x (by simp[hx])) (λx hx=>hsp x (by simp[hx]))
 |[],[],_::_,_,_,h,_,_=>h.elim
 |[],_::_,_,_,_,h,_,_=>by cases h
theorem Ns {f:Func} {s:ChangeSpec} {apart fresh handsOn again:Bool} {args:Array Value} {ds gs:List (DataW H)} {before:List MemPlace} {t:TypeId}
  (hl:laidOutB P=true) (hW:DataW.Whole enc P f.params.toList s.vars apart W args.toList ds gs before) (hvs:s.vars=[]) (hE:dz W W') (hts:(f.params.toList.all λt=>P.readableRec t&&decide (t<P.types.size))=true)
  (hrt:f.resultTypes= #[t]) (htb:P.underlying t=some .bool) (hr:(s.fn H (ds++gs)).results=[.lit (.bool true)]) (ha:(s.fn H (ds++gs)).args=ds) (hv:(s.fn H (ds++gs)).vars=[]):
  s.post enc P f apart fresh handsOn again W args (.bool true) W':=by
 have hlt:=hW.lt
 have hW':=hW
 obtain⟨p,q,hA,hV,rfl,hz,hn⟩:=hW
 rw[hvs]at hV
 obtain⟨rfl,rfl⟩:=trodVars_none hV
 have hargs:∀sp:Nat→Bool,(∀x∈p++[],sp x.block=true)→DataW.TrodAll enc P W' 0 sp true f.params.toList args.toList (s.fn H (ds++[])).args p:=λsp hsp=>by
  rw[ha]
  exact sO hl hE sp hts hA (λx hx=>hlt x (by simp[hx])) (λx hx=>hsp x (by simp[hx]))
 have hres:∀(b:Nat) (sp:Nat→Bool) (hd:Bool),DataW.TrodAll enc P W' b sp hd f.resultTypes.toList ((Value.bool true).resultList f.resultTypes.size) (s.fn H (ds++[])).results []:=λb sp hd=>by
  rw[hr,hrt]
  exact trodAll_mk1 (shut_bool htb true)
 have hvars:∀sp:Nat→Bool,DataW.TrodVars enc P W' sp s.vars (s.fn H (ds++[])).vars []:=λsp=>by
  rw[hv,hvs];rfl
 have hold:∀x∈p++[],(λb=>decide (b<W.heap.size)) x.block=true:=λx hx=>by simpa using hlt x hx
 refine⟨ds,[],p++[],[],p,[],hW',hres _ _ _,hargs _ hold,hvars _,World.keptBut_mono (λx hx=>⟨hx,?_⟩) (Below.frame hE (·∈p++[])),λ_=> ?_⟩
 ·simpa using hx
 ·refine⟨ok_one hrt rfl (okWide_bool_mk htb true),_,_,([]++p)++[],⟨[]++p,[],trodAll_append (hargs _ (λ_ _=>rfl)) (hres _ _ _),hvars _,rfl,?_,?_⟩,?_⟩
  ·intro b off hp
   have hm:MemPlace.cell b off∈p++[]:=by simpa using hp
   rw[Below.frozen hE (p:=⟨b,off,none⟩) (hlt _ hm)]
   exact hz b off hm
  ·intro ha
   have:=hn ha
   simpa using this
  ·intro x hx _
   simpa using hx
end
end
section
open Go Go.RowKit Go.ChangeShapes Go.WideShapes Go.ChangeAt Go.Joins Go.Deep
section
variable {H:Type} {encH:TypeId×Value→H} {P:Program} {w:World} {base:Nat} {held:Bool} {r:Reach} {b0:Nat} {t e:TypeId}
theorem J1 {a:Addr} {v:Value} (h:w.cell? a=some v):a.spot=none:=by
 unfold World.cell? at h
 split at h
 ·split at h
  ·cases h
  ·rename_i hn
   cases hq:a.spot with
   |none=>rfl
   |some _=>rw[hq]at hn;simp at hn
 ·cases h
theorem open_sl {α:Type} [Inhabited α] {enc:α→List Value} {sz fuel:Nat} {Q:α→Prop} {v:Value} {x:DataW H×List MemPlace} (ht:P.underlying t=some (.slice e)) (hc:P.cellsOf e=sz) (hsz:0<sz) (he:∀a,(enc a).length=sz)
  (hopen:∀n cs y,cs.length=sz→DataW.trod encH P w base (λ_=>true) held n e cs=some y→∃a,cs=enc a∧Q a)
  (h:DataW.trod encH P w base (λ_=>true) held fuel t [v]=some x):∃l:List α,dh enc sz w v l∧∀a∈l,Q a:=by
 rcases open_slice ht h with ⟨h0,_⟩|⟨a,len,cap,m,n,D,Pl,h1,hb,hl,hm,hmm,hx,hel⟩
 ·simp only[List.cons.injEq,and_true]at h0
  subst h0
  exact⟨[],dh.nil,by simp⟩
 ·simp only[List.cons.injEq,and_true]at h1
  subst h1
  simp only[if_true]at hmm
  subst hmm
  rw[hc]at hel
  obtain⟨A,hA⟩:=choose_lt (α:=α) (p:=λi b=>Q b∧∀r u,(enc b)[r]? =some u→w.cell? (a.add (i*sz+r))=some u) (λi hi=>by
   obtain⟨cs',g1,g2⟩:=hel i hi
   obtain⟨_,hlen,hcell⟩:=World.cells?_some g1
   obtain⟨b,rfl,hq⟩:=hopen n cs' _ hlen g2
   refine⟨b,hq,λr u hu=> ?_⟩
   have hr:r<sz:=by
    have:=(aaV.1 hu).1
    rwa [he]at this
   have:=hcell r hr
   rw[add_add]at this
   rw[this];exact hu)
  have hspot:0<m→a.spot=none:=λh0=>by
   obtain⟨_,g⟩:=hA 0 h0
   have hlen:=he (A 0)
   have:(enc (A 0))[0]? =some ((enc (A 0))[0]'(by omega)):=th _
   have hg:=g 0 _ this
   rw[abb]at hg
   exact J1 hg
  have hl2:∀k,k<len→((List.range len).map A).getD k default=A k:=λk hk=>by simp[hk]
  have hlen0:((List.range len).map A).length=len:=by simp
  refine⟨(List.range len).map A,⟨⟨some a,by simp[iZ],by rw[hlen0];exact hl,(λh=>(nomatch h)),λa' h' h0=> ?_⟩,by rw[kn he],λj u hu=> ?_⟩,λb hb=> ?_⟩
  ·obtain rfl:=Z9 h'
   have:=hspot h0
   cases a
   simp only at this
   subst this
   rfl
  ·have hlen2:((List.range len).map A).length=len:=by simp
   have hj:j<len*sz:=by
    have:=(aaV.1 hu).1
    rwa [kn he,hlen2]at this
   have h1:j/sz<len:=Nat.div_lt_of_lt_mul (by rwa [aa3]at hj)
   have h2:j%sz<sz:=aaS _ hsz
   have e1:j=j/sz*sz+j%sz:=by rw[aa3];exact(Nat.div_add_mod j sz).symm
   have h3:=vg he ((List.range len).map A) (j/sz) (j%sz) default (by rw[hlen2];exact h1) h2
   rw[←e1,hu,hl2 _ h1]at h3
   have h4:=(hA (j/sz) (by omega)).2 (j%sz) u h3.symm
   rw[←e1]at h4
   have hs:=hspot (aaw (my _) (aao h1 hl))
   cases a
   simp only at hs
   subst hs
   rw[hU]at h4
   exact h4
  ·obtain⟨i,hi,rfl⟩:=aag.1 hb
   exact(hA i (by have:=aam.1 hi;omega)).1
theorem U7 (ht:P.underlying t=some (.int .i64)) {n:Nat} {cs:List Value} {y:DataW H×List MemPlace} (hl:cs.length=1) (h:DataW.trod encH P w base (λ_=>true) held n t cs=some y):∃z:Int,cs=dJ z∧(-9223372036854775808≤z∧z≤9223372036854775807):=by
 obtain⟨z,e,_,hw⟩:=DataW.trod_int ht h
 exact⟨z,e,VJ hw⟩
end
end
end Go.Proofs.YtedeonkjellcpaaGreatDoor
