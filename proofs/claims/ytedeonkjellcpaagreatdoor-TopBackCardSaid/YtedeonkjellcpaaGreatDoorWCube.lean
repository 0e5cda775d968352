/- The library's functions that this program calls, in the form of our own walks: each out of the kit's contract. Short forms of the laws of walking: what a step asks for of itself is checked by itself (no condition). The walks of package pla: its texts. The walks of package set. The walks of the docum -/
import Derived.Test.YtedeonkjellcpaaGreatDoorShelf
import Derived.Test.YtedeonkjellcpaaGreatDoorProg
import Derived.Test.YtedeonkjellcpaaGreatDoorLiftT
namespace Go.Proofs.YtedeonkjellcpaaGreatDoor
set_option linter.unusedVariables false
set_option linter.unusedSimpArgs false
section
open Go Go.RowKit
structure Gl (w:World):Prop where
 bal:Yw 0 w
 esy:∃te pe,w.cell? ⟨4,0,none⟩=some (.iface te pe)
 era:∃te pe,w.cell? ⟨5,0,none⟩=some (.iface te pe)
 pow:Lib.TabIs Tryz.prog w "internal/strconv.uint64pow10" .u64 Lib.pow10Tab
theorem yz {w W:World} {a:Addr} {v:Value} (h:Go.RowKit.Below w.heap.size w W) (k:w.cell? a=some v):W.cell? a=some v:=by
 rw[World.cell?_of_block (h.block a.block (World.block_lt_of_cell? _ _ k))];exact k
theorem KV {w W:World} {n:String} {k:IntKind} {zs:List Int} (h:Go.RowKit.Below w.heap.size w W) (q:Lib.TabIs Tryz.prog w n k zs):Lib.TabIs Tryz.prog W n k zs:=by
 unfold Lib.TabIs World.var? at*
 cases hg:Tryz.prog.globalNamed n with
 |none=>rw[hg]at q;cases q
 |some g=>
  rw[hg]at q
  simp only[Option.bind_some]at q ⊢
  have hlt:g<w.heap.size:=by
   rcases aa0 g w.heap.size with h1|h1
   ·exact h1
   ·rw[Array.getElem?_eq_none h1]at q;cases q
  rw[h.block g hlt]
  exact q
theorem Gl.below {w W:World} (h:Go.RowKit.Below w.heap.size w W) (k:Gl w):Gl W:=by
 obtain⟨h1,⟨a,b,h2⟩,⟨c,d,h3⟩,h4⟩:=k
 exact⟨h1.below h,⟨a,b,yz h h2⟩,⟨c,d,yz h h3⟩,KV h h4⟩
theorem dz.bytesWorld (w:World) (e:TypeId) (s:ByteArray):dz w (Lib.bytesWorld w e s):=by
 have h1:dz w (w.drew.alloc (.cells (Lib.bytesCells w e s) e)):=(act w _).trans (dz.alloc _ _)
 unfold Lib.bytesWorld World.freeze
 split
 ·exact h1
 ·have a1:_=w.os:=Below.os h1
  have a2:_=w.tape:=Below.tape h1
  have a3:_=w.output:=Below.output h1
  refine⟨a1,a2,a3,?_,λk hk=> ?_⟩
  ·have:=dz.size h1
   simp only[Array.size_modify]
   exact this
  ·rw[←Below.block h1 k hk]
   show (Array.modify _ w.heap.size _)[k]? =_
   rw[Array.getElem?_modify,if_neg (by omega)]
theorem acG (w:World) (os:Array Obj):dz w (Go.Sort.grow w os):=by
 refine⟨rfl,rfl,rfl,?_,λk hk=> ?_⟩
 ·unfold Go.Sort.grow;simp
 ·unfold Go.Sort.grow
  show (w.heap++os)[k]? =_
  rw[Array.getElem?_append_left hk]
theorem mV (s p:List UInt8) (w:World):Fn Tryz.prog 125 #[eM s,eM p] w λv w'=>v= .tuple #[eM (Lib.trimPrefix s p), .bool (Lib.hasPrefix s p)]:=
 Ep (Tryz.strings_CutPrefix ⟨s.toArray⟩ ⟨p.toArray⟩ w)
theorem Am (s p:List UInt8) (w:World) (hg:Gl w) (hs:s.length<4294967281):Fn Tryz.prog 91 #[eM s,eM p] w λv w'=>v= .tuple #[eM (Lib.cut s p).1,eM (Lib.cut s p).2.1, .bool (Lib.cut s p).2.2]:=by
 obtain⟨m,hm⟩:=hg.bal
 exact⟨Calls.mono (Tryz.strings_Cut ⟨s.toArray⟩ ⟨p.toArray⟩ m w hs hm) λe w' ⟨h1,n,h2⟩=>⟨_,h1,by rw[h2];exact dz.drewN w n,rfl⟩⟩
theorem wV (s:List UInt8) (w:World) (hg:Gl w) (hs:s.length<4294967281):Fn Tryz.prog 58 #[eM s,eM [10]] w λv w'=>cD Da 1 9 w' w.heap.size v (dp s):=by
 obtain⟨m,hm⟩:=hg.bal
 refine⟨Calls.mono (Tryz.strings_Split ⟨s.toArray⟩ ⟨#[10]⟩ m w hs hm (by decide)) λe w' ⟨h1,h2⟩=>⟨_,h1,by rw[h2];exact dz.alloc w _,?_⟩⟩
 have hc:Lib.countB ⟨s.toArray⟩ ⟨#[10]⟩=s.count 10:=Lib.count_one 10 s
 have hd:=Lib.splitB_data ⟨#[10]⟩ 0 (s.count 10) ⟨s.toArray⟩
 rw[show (⟨s.toArray⟩:ByteArray).data.toList=s from rfl,show (⟨#[10]⟩:ByteArray).data.toList=[10] from rfl,tS]at hd
 have hl:=Lib.splitB_all ⟨#[10]⟩ (by decide) 0 (s.count 10) ⟨s.toArray⟩ hc
 have hl2:(dp s).length=s.count 10+1:=by rw[←hd,aaD,hl]
 have hcs:((Lib.splitB ⟨#[10]⟩ 0 (s.count 10) ⟨s.toArray⟩).map Value.string)=(dp s).flatMap Da:=by
  rw[←hd,List.flatMap_map]
  induction Lib.splitB ⟨#[10]⟩ 0 (s.count 10) ⟨s.toArray⟩with
  |nil=>rfl
  |cons a l ih=>rw[abc,aaE,ih];exact congrArg (·::_) (Hi a)
 rw[hc]at h2 ⊢
 rw[h2,hcs,←hl2]
 have hle:(dp s).length≤maxLen:=by
  rw[hl2]
  have:=List.count_le_length (a:=(10:UInt8)) (l:=s)
  unfold maxLen
  omega
 exact IE (heap_alloc_new w _) (am _) kq hle
theorem x7 (s:List UInt8) (w:World) (hg:Gl w) (hs:s.length≤281474976710656):Fn Tryz.prog 164 #[eM s] w λv w'=>(∃n:Int,Lib.atoiAll s= .ok n∧v= .tuple #[.int .i64 n, .nilIface])∨((∀n,Lib.atoiAll s≠ .ok n)∧∃(n:Int) (p:Value),v= .tuple #[.int .i64 n, .iface 310 p]):=by
 obtain⟨_,⟨t1,p1,h1⟩,⟨t2,p2,h2⟩,_⟩:=hg
 cases h:Lib.atoiAll s
 case ok n=>exact⟨Calls.mono (Tryz.strconv_Atoi_ok ⟨s.toArray⟩ (show s.length≤_ by omega) n h w) λe w' ⟨e1,e2⟩=>⟨_,e1,by rcases e2 with rfl|⟨t,rfl⟩<;>first|exact dz.refl _|exact dz.bytesWorld _ _ _, .inl ⟨n,rfl,rfl⟩⟩⟩
 case range=>exact⟨Calls.mono (Tryz.strconv_Atoi_range ⟨s.toArray⟩ hs h _ w h2 (.inr ⟨_,_,rfl⟩)) λe w' ⟨b,e1,_,_,e2⟩=>⟨_,e1,e2, .inr ⟨λn e=>(by cases e),_,_,rfl⟩⟩⟩
 all_goals exact⟨Calls.mono (Tryz.strconv_Atoi_syntax ⟨s.toArray⟩ hs h _ w h1 (.inr ⟨_,_,rfl⟩)) λe w' ⟨b,e1,_,_,e2⟩=>⟨_,e1,e2, .inr ⟨λn e=>(by cases e),_,_,rfl⟩⟩⟩
theorem jc (n:Int) (w:World) (hg:Gl w) (h0: -9223372036854775808≤n) (h1:n≤9223372036854775807):Fn Tryz.prog 55 #[.int .i64 n] w λv w'=>v=eM (Lib.itoa n):=
 ⟨Calls.mono (Tryz.strconv_Itoa n h0 h1 w hg.pow) λe w' ⟨e1,k,os,e2⟩=>⟨_,e1,by rw[e2];exact(dz.drewN w k).trans (acG _ _),rfl⟩⟩
end
section
open Go Go.RowKit
class Q1 (b:Bool) (p:outParam Prop):Prop where
 t:b=true→p
 f:b=false→¬p
instance (priority:=low) tst_0 (b:Bool):Q1 b (b=true):=⟨id,λh=>by simp[h]⟩
instance tst_1 (p:Prop) [Decidable p]:Q1 (decide p) p:=⟨of_decide_eq_true,of_decide_eq_false⟩
class Qo (b:Bool) (p:outParam Prop):Prop where
 f:b=false→p
instance (priority:=low) tsf_0 (b:Bool):Qo b (b=false):=⟨id⟩
instance tsf_1 (p:Prop) [Decidable p]:Qo (decide p) (¬p):=⟨of_decide_eq_false⟩
theorem Om {p:Prop} (h:p:=by omega):p:=h
theorem Dd {p:Prop} (h:p:=by decide):p:=h
theorem Za {p:Prop} (h:p:=by repeat (first|exact dB.mask _ _ _|exact dB.refl _ _|refine abG ?_ rfl _|refine aby ?_ _ rfl|refine abk rfl ?_)):p:=h
theorem Zo {p:Prop} (h:p:=by first|omega|(dsimp only;omega)):p:=h
def vr (ops:Array Oper) (f:Nat→Value) (o:Oper) (n:Nat):Bool:=fW ops f o&&jM n o.dst
def YD (ops:Array Oper) (f:Nat→Value) (o:Oper) (n:Nat):Bool:= !fW ops f o&&jM n o.dst
theorem wG {ops:Array Oper} {f:Nat→Value} {o:Oper} {n:Nat} (h:vr ops f o n=true):fW ops f o=true:=(abu.1 h).1
theorem wE {ops:Array Oper} {f:Nat→Value} {o:Oper} {n:Nat} (h:vr ops f o n=true):jM n o.dst=true:=(abu.1 h).2
theorem TH {ops:Array Oper} {f:Nat→Value} {o:Oper} {n:Nat} (h:YD ops f o n=true):fW ops f o=false:=by simpa using (abu.1 h).1
theorem Tz {ops:Array Oper} {f:Nat→Value} {o:Oper} {n:Nat} (h:YD ops f o n=true):jM n o.dst=true:=(abu.1 h).2
def Kz (f:Nat→Value):Op→Option Value
 | .move x=>some (dg f x)
 | .assign x=>some (dg f x)
 | .pick c x y=>match dg f c with
  | .bool true=>some (dg f x)
  | .bool false=>some (dg f y)
  |_=>none
 |_=>none
section
variable {P:Program} {n:Nat} {ops:Array Oper} {Q:(Nat→Value)→World→Prop} {f:Nat→Value} {w:World} {rest:List Oper} {d:Option Nat} {op:Op} {ty:TypeId} {ps:String} {af:Array Edge} {g:Option (Nat×Bool)}
theorem nf {v:Value} (h:Kz f op=some v):(execOp (dg f) ⟨d,op,ty,ps,af,g⟩).run P w= .ok (.value v) w:=by
 unfold Kz at h
 split at h
 ·obtain rfl:=Z9 h;exact jL rfl
 ·obtain rfl:=Z9 h;exact FW rfl
 ·split at h
  ·obtain rfl:=Z9 h;rename_i e;exact Mg e rfl
  ·obtain rfl:=Z9 h;rename_i e;exact LE e rfl
  ·cases h
 ·cases h
theorem Zv {v:Value} {w':World} (hr:(execOp (dg f) ⟨d,op,ty,ps,af,g⟩).run P w= .ok (.value v) w') (h:WL P n ops Q rest (updo f d v) w') (hk:vr ops f ⟨d,op,ty,ps,af,g⟩ n=true:=by exact rfl):
  WL P n ops Q (⟨d,op,ty,ps,af,g⟩::rest) f w:=Hu (wG hk) rfl (wE hk) hr h
theorem Zw (v:Value) (hv:Kz f op=some v) (h:WL P n ops Q rest (updo f d v) w) (hk:vr ops f ⟨d,op,ty,ps,af,g⟩ n=true:=by exact rfl):
  WL P n ops Q (⟨d,op,ty,ps,af,g⟩::rest) f w:=Zv (nf hv) h hk
theorem Zi {k:IntKind} {z:Int} (hv:Kz f op=some (.int k z)) (h:WL P n ops Q rest (updo f d (.int k z)) w) (hk:vr ops f ⟨d,op,ty,ps,af,g⟩ n=true:=by exact rfl):
  WL P n ops Q (⟨d,op,ty,ps,af,g⟩::rest) f w:=Zv (nf hv) h hk
theorem Zb {b:Bool} (hv:Kz f op=some (.bool b)) (h:WL P n ops Q rest (updo f d (.bool b)) w) (hk:vr ops f ⟨d,op,ty,ps,af,g⟩ n=true:=by exact rfl):
  WL P n ops Q (⟨d,op,ty,ps,af,g⟩::rest) f w:=Zv (nf hv) h hk
theorem Zp {b o:Nat} (hv:Kz f op=some (.pointer (some ⟨b,o,none⟩))) (h:WL P n ops Q rest (updo f d (.pointer (some ⟨b,o,none⟩))) w) (hk:vr ops f ⟨d,op,ty,ps,af,g⟩ n=true:=by exact rfl):
  WL P n ops Q (⟨d,op,ty,ps,af,g⟩::rest) f w:=Zv (nf hv) h hk
theorem Zf {x:Operand} {t:TypeId} {k q b o:Nat} (hx:dg f x= .pointer (some ⟨b,o,none⟩)) (hT:dS P t k=some q) (h:WL P n ops Q rest (updo f d (.pointer (some ⟨b,o+q,none⟩))) w)
  (hk:vr ops f ⟨d, .fieldAddr t x k,ty,ps,af,g⟩ n=true:=by exact rfl):WL P n ops Q (⟨d, .fieldAddr t x k,ty,ps,af,g⟩::rest) f w:=Zv (qU hx hT) h hk
theorem Zc {x:Operand} {a:Addr} (hx:dg f x= .pointer (some a)) (h:WL P n ops Q rest (updo f d (.pointer (some a))) w)
  (hk:vr ops f ⟨d, .nilCheck x,ty,ps,af,g⟩ n=true:=by exact rfl):WL P n ops Q (⟨d, .nilCheck x,ty,ps,af,g⟩::rest) f w:=Zv (rb hx) h hk
theorem Zl {x:Operand} {t:TypeId} {b o:Nat} {k:IntKind} {z:Int} {c:Array Value} {T:TypeId} (hx:dg f x= .pointer (some ⟨b,o,none⟩)) (hT:eE P t=true) (hm:At w b c T) (hc:c[o]? =some (.int k z))
  (h:WL P n ops Q rest (updo f d (.int k z)) w) (hk:vr ops f ⟨d, .load t x,ty,ps,af,g⟩ n=true:=by exact rfl):WL P n ops Q (⟨d, .load t x,ty,ps,af,g⟩::rest) f w:=Zv (cB hx hT (At.cell hm hc)) h hk
theorem ZL (v:Value) {x:Operand} {t:TypeId} {b o:Nat} {c:Array Value} {T:TypeId} (hx:dg f x= .pointer (some ⟨b,o,none⟩)) (hT:eE P t=true) (hm:At w b c T) (hc:c[o]? =some v)
  (h:WL P n ops Q rest (updo f d v) w) (hk:vr ops f ⟨d, .load t x,ty,ps,af,g⟩ n=true:=by exact rfl):WL P n ops Q (⟨d, .load t x,ty,ps,af,g⟩::rest) f w:=Zv (cB hx hT (At.cell hm hc)) h hk
theorem Zs (h:WL P n ops Q rest (updo f d undef) w) (hk:YD ops f ⟨d,op,ty,ps,af,g⟩ n=true:=by exact rfl):WL P n ops Q (⟨d,op,ty,ps,af,g⟩::rest) f w:=SN (TH hk) rfl (Tz hk) h
theorem Zy (h:Yd P ⟨d,op,ty,ps,af,g⟩ f w λv w'=>WL P n ops Q rest (updo f d v) w') (hk:vr ops f ⟨d,op,ty,ps,af,g⟩ n=true:=by exact rfl):WL P n ops Q (⟨d,op,ty,ps,af,g⟩::rest) f w:=
 gK (wG hk) rfl (wE hk) h
theorem Zx {b:Bool} {p q:Prop} [Q1 b p] [Qo b q] (hr:(execOp (dg f) ⟨d,op,ty,ps,af,g⟩).run P w= .ok (.value (.bool b)) w) (ht:p→WL P n ops Q rest (updo f d (.bool true)) w) (hf:q→WL P n ops Q rest (updo f d (.bool false)) w)
  (hk:vr ops f ⟨d,op,ty,ps,af,g⟩ n=true:=by exact rfl):WL P n ops Q (⟨d,op,ty,ps,af,g⟩::rest) f w:=Ny (wG hk) rfl (wE hk) hr (λh=>ht (Q1.t h)) (λh=>hf (Qo.f h))
theorem ZZ {k:IntKind} {z:Int} (hv:Kz f op=some (.int k z)) (h:Q (updo f d (.int k z)) w) (hk:vr ops f ⟨d,op,ty,ps,af,g⟩ n=true:=by exact rfl):WL P n ops Q [⟨d,op,ty,ps,af,g⟩] f w:=Zi hv (ct h) hk
theorem ZT {Q:Exit→(Nat→Value)→World→Prop} {id:Nat} {a b:Int} {x y:Operand} {t t2:TypeId} {d2:Option Nat} {op2:Op} {ty2:TypeId} {ps2:String} {af2:Array Edge} {g2:Option (Nat×Bool)} {k:IntKind} {z:Int} (hx:dg f x= .int .i64 a) (hy:dg f y= .int .i64 b) (hv:Kz (updo f d (.int .i64 (a+b))) op2=some (.int k z)) (h:Q .normal (updo (updo f d (.int .i64 (a+b))) d2 (.int k z)) w)
  (h1: -9223372036854775808≤a+b:=by omega) (h2:a+b≤9223372036854775807:=by omega) (hk:vr [⟨d, .binOp .add t x y t2,ty,ps,af,g⟩,⟨d2,op2,ty2,ps2,af2,g2⟩].toArray f ⟨d, .binOp .add t x y t2,ty,ps,af,g⟩ n=true:=by exact rfl) (hl:vr [⟨d, .binOp .add t x y t2,ty,ps,af,g⟩,⟨d2,op2,ty2,ps2,af2,g2⟩].toArray (updo f d (.int .i64 (a+b))) ⟨d2,op2,ty2,ps2,af2,g2⟩ n=true:=by exact rfl):
  WC P n (.region id [⟨d, .binOp .add t x y t2,ty,ps,af,g⟩,⟨d2,op2,ty2,ps2,af2,g2⟩].toArray false) Q f w:=cN (Zv (eP hx hy h1 h2) (Zi hv (ct h) hl) hk)
theorem ZX {b:Bool} {p q:Prop} [Q1 b p] [Qo b q] (hv:Kz f op=some (.bool b)) (ht:p→WL P n ops Q rest (updo f d (.bool true)) w) (hf:q→WL P n ops Q rest (updo f d (.bool false)) w)
  (hk:vr ops f ⟨d,op,ty,ps,af,g⟩ n=true:=by exact rfl):WL P n ops Q (⟨d,op,ty,ps,af,g⟩::rest) f w:=Zx (nf hv) ht hf hk
theorem uT {q:Nat} {tys:Array TypeId} {ao:List Operand} {vs:List Value} (hc:cX P q=true) (hv:ao.map (dg f)=vs):
  (execOp (dg f) ⟨d, .call ⟨.value (.func q),ao.toArray,tys⟩,ty,ps,af,g⟩).run P w= .ok (.enter q vs.toArray) w:=ij (first:= #[]) (cap:= #[]) rfl hc (by simp[hv])
theorem ZC {q:Nat} {tys:Array TypeId} {ao:List Operand} {vs:List Value} {Post:Value→World→Prop} (hb:cX P q=true) (hc:Fn P q vs.toArray w Post) (hv:ao.map (dg f)=vs)
  (h:∀v w',dz w w'→Post v w'→WL P n ops Q rest (updo f d v) w') (hk:vr ops f ⟨d, .call ⟨.value (.func q),ao.toArray,tys⟩,ty,ps,af,g⟩ n=true:=by exact rfl):
  WL P n ops Q (⟨d, .call ⟨.value (.func q),ao.toArray,tys⟩,ty,ps,af,g⟩::rest) f w:=ol (wG hk) rfl (wE hk) (uT hb hv) hc h
theorem ZH {q:Nat} {tys:Array TypeId} {ao:List Operand} {vs:List Value} {Post:Value→World→Prop} (hb:cX P q=true) (hc:mS P q vs.toArray w Post) (hv:ao.map (dg f)=vs)
  (h:∀v w',Post v w'→WL P n ops Q rest (updo f d v) w') (hk:vr ops f ⟨d, .call ⟨.value (.func q),ao.toArray,tys⟩,ty,ps,af,g⟩ n=true:=by exact rfl):
  WL P n ops Q (⟨d, .call ⟨.value (.func q),ao.toArray,tys⟩,ty,ps,af,g⟩::rest) f w:=mA (wG hk) rfl (wE hk) (uT hb hv) hc h
end
section
variable {P:Program} {n:Nat} {ops:Array Oper} {Q:(Nat→Value)→World→Prop} {S:World→Prop} {f:Nat→Value} {w:World} {k:Nat} {L:Array Bool} {d:Option Nat} {op:Op} {ty:TypeId} {ps:String} {af:Array Edge} {g:Option (Nat×Bool)}
def Nz (ops:Array Oper) (L:Array Bool) (i:Nat):Bool:=Region.noSelect ops&&Region.free .any ops L i&&(Region.ready .any ops L).contains i
theorem ND {i:Nat} (h:Nz ops L i=true):Region.noSelect ops=true∧Region.free .any ops L i=true∧(Region.ready .any ops L).contains i=true:=by
 unfold Nz at h
 rw[we,we]at h
 exact⟨h.1.1,h.1.2,h.2⟩
theorem Tk (i:Nat) {v:Value} (hi:ops[i]? =some ⟨d,op,ty,ps,af,g⟩) (hv:∀w',S w'→(execOp (dg f) ⟨d,op,ty,ps,af,g⟩).run P w'= .ok (.value v) w') (hS:S w)
  (h:WT P n ops Q S k (L.setIfInBounds i true) (updo f d v) w) (hk:vr ops f ⟨d,op,ty,ps,af,g⟩ n=true:=by exact rfl) (ht:Nz ops L i=true:=by kernel_rfl):WT P n ops Q S (k+1) L f w:=
 have q:=ND ht
 Ck i hi q.1 q.2.1 q.2.2 (wG hk) rfl (wE hk) hv hS h
theorem Tw (i:Nat) (v:Value) (hi:ops[i]? =some ⟨d,op,ty,ps,af,g⟩) (hv:Kz f op=some v) (hS:S w)
  (h:WT P n ops Q S k (L.setIfInBounds i true) (updo f d v) w) (hk:vr ops f ⟨d,op,ty,ps,af,g⟩ n=true:=by exact rfl) (ht:Nz ops L i=true:=by kernel_rfl):WT P n ops Q S (k+1) L f w:=
 Tk i hi (λ_ _=>nf hv) hS h hk ht
theorem Ti (i:Nat) {q:IntKind} {z:Int} (hi:ops[i]? =some ⟨d,op,ty,ps,af,g⟩) (hv:Kz f op=some (.int q z)) (hS:S w)
  (h:WT P n ops Q S k (L.setIfInBounds i true) (updo f d (.int q z)) w) (hk:vr ops f ⟨d,op,ty,ps,af,g⟩ n=true:=by exact rfl) (ht:Nz ops L i=true:=by kernel_rfl):WT P n ops Q S (k+1) L f w:=
 Tk i hi (λ_ _=>nf hv) hS h hk ht
theorem Ty (i:Nat) {b:Bool} (hi:ops[i]? =some ⟨d,op,ty,ps,af,g⟩) (hv:Kz f op=some (.bool b)) (hS:S w)
  (h:WT P n ops Q S k (L.setIfInBounds i true) (updo f d (.bool b)) w) (hk:vr ops f ⟨d,op,ty,ps,af,g⟩ n=true:=by exact rfl) (ht:Nz ops L i=true:=by kernel_rfl):WT P n ops Q S (k+1) L f w:=
 Tk i hi (λ_ _=>nf hv) hS h hk ht
theorem Tq (i:Nat) {b o:Nat} (hi:ops[i]? =some ⟨d,op,ty,ps,af,g⟩) (hv:Kz f op=some (.pointer (some ⟨b,o,none⟩))) (hS:S w)
  (h:WT P n ops Q S k (L.setIfInBounds i true) (updo f d (.pointer (some ⟨b,o,none⟩))) w) (hk:vr ops f ⟨d,op,ty,ps,af,g⟩ n=true:=by exact rfl) (ht:Nz ops L i=true:=by kernel_rfl):WT P n ops Q S (k+1) L f w:=
 Tk i hi (λ_ _=>nf hv) hS h hk ht
theorem Tf (i:Nat) {x:Operand} {t:TypeId} {m q b o:Nat} (hi:ops[i]? =some ⟨d, .fieldAddr t x m,ty,ps,af,g⟩) (hx:dg f x= .pointer (some ⟨b,o,none⟩)) (hT:dS P t m=some q) (hS:S w)
  (h:WT P n ops Q S k (L.setIfInBounds i true) (updo f d (.pointer (some ⟨b,o+q,none⟩))) w) (hk:vr ops f ⟨d, .fieldAddr t x m,ty,ps,af,g⟩ n=true:=by exact rfl) (ht:Nz ops L i=true:=by kernel_rfl):WT P n ops Q S (k+1) L f w:=
 Tk i hi (λ_ _=>qU hx hT) hS h hk ht
theorem Tc (i:Nat) {x:Operand} {a:Addr} (hi:ops[i]? =some ⟨d, .nilCheck x,ty,ps,af,g⟩) (hx:dg f x= .pointer (some a)) (hS:S w)
  (h:WT P n ops Q S k (L.setIfInBounds i true) (updo f d (.pointer (some a))) w) (hk:vr ops f ⟨d, .nilCheck x,ty,ps,af,g⟩ n=true:=by exact rfl) (ht:Nz ops L i=true:=by kernel_rfl):WT P n ops Q S (k+1) L f w:=
 Tk i hi (λ_ _=>rb hx) hS h hk ht
theorem Tp (i:Nat) (hi:ops[i]? =some ⟨d,op,ty,ps,af,g⟩) (hS:S w) (h:WT P n ops Q S k (L.setIfInBounds i true) (updo f d undef) w) (hk:YD ops f ⟨d,op,ty,ps,af,g⟩ n=true:=by exact rfl)
  (ht:Nz ops L i=true:=by kernel_rfl):WT P n ops Q S (k+1) L f w:=
 have q:=ND ht
 Sq i hi q.1 q.2.1 q.2.2 (TH hk) rfl (Tz hk) hS h
theorem Tx (i:Nat) {b:Bool} {p q:Prop} [Q1 b p] [Qo b q] (hi:ops[i]? =some ⟨d,op,ty,ps,af,g⟩) (hv:∀w',S w'→(execOp (dg f) ⟨d,op,ty,ps,af,g⟩).run P w'= .ok (.value (.bool b)) w') (hS:S w)
  (h1:p→WT P n ops Q S k (L.setIfInBounds i true) (updo f d (.bool true)) w) (h0:q→WT P n ops Q S k (L.setIfInBounds i true) (updo f d (.bool false)) w)
  (hk:vr ops f ⟨d,op,ty,ps,af,g⟩ n=true:=by exact rfl) (ht:Nz ops L i=true:=by kernel_rfl):WT P n ops Q S (k+1) L f w:=
 have q:=ND ht
 NK i hi q.1 q.2.1 q.2.2 (wG hk) rfl (wE hk) hv hS (λe=>h1 (Q1.t e)) (λe=>h0 (Qo.f e))
theorem To (i:Nat) (hi:ops[i]? =some ⟨d,op,ty,ps,af,g⟩) (h:Yd P ⟨d,op,ty,ps,af,g⟩ f w λv w'=>(S w'∨mg ops L i=true)∧WT P n ops Q S k (L.setIfInBounds i true) (updo f d v) w')
  (hk:vr ops f ⟨d,op,ty,ps,af,g⟩ n=true:=by exact rfl) (hr:Region.ready .any ops L=[i]:=by kernel_rfl):WT P n ops Q S (k+1) L f w:=jK i hr hi (wG hk) rfl (wE hk) h
theorem Td (h:Q f w) (hr:Region.ready .any ops L=[]:=by kernel_rfl):WT P n ops Q S k L f w:=Qg hr h
theorem TC {q:Nat} {tys:Array TypeId} {ao:List Operand} {vs:List Value} {Post K:Value→World→Prop} (hb:cX P q=true) (hc:Fn P q vs.toArray w Post) (hv:ao.map (dg f)=vs)
  (h:∀v w',dz w w'→Post v w'→K v w'):Yd P ⟨d, .call ⟨.value (.func q),ao.toArray,tys⟩,ty,ps,af,g⟩ f w K:=Yd.call (uT hb hv) hc h
theorem TG {q:Nat} {tys:Array TypeId} {ao:List Operand} {vs:List Value} {Post K:Value→World→Prop} (hb:cX P q=true) (hc:mS P q vs.toArray w Post) (hv:ao.map (dg f)=vs)
  (h:∀v w',Post v w'→K v w'):Yd P ⟨d, .call ⟨.value (.func q),ao.toArray,tys⟩,ty,ps,af,g⟩ f w K:=acm (uT hb hv) hc h
end
section
variable {P:Program} {n:Nat} {Q:Exit→(Nat→Value)→World→Prop} {f:Nat→Value} {w:World}
theorem Zq {x y:Code} (h:WC P n x (xY (WC P n y Q) Q) f w):WC P n (.seq x y) Q f w:=by
 refine⟨λa ha=> ?_⟩
 refine wp_seq (Code.wp_mono (λe a' w' hq=> ?_) (h.out a ha))
 obtain⟨f',hr,hq⟩:=hq
 cases e with
 |normal=>exact hq.out a' hr
 |_=>exact⟨f',hr,hq⟩
theorem rN {σ:Type} (S:List Nat) (L:σ→List (Nat×Value)) (I0:World→Prop) (h0:I0 w) (I:σ→World→Prop) {x y:Code}
  (h1:∀J:(Nat→Value)→World→Prop,(∀f2 w2 s2,dB S f2 f→qY f2 (L s2)→I0 w2→I s2 w2→J f2 w2)→WC P n x (xY J Q) f w)
  (h2:∀s g w1,I0 w1→I s w1→WC P n y Q (updL (L s) (mask S f g)) w1):WC P n (.seq x y) Q f w:=
 UF λK hK=>h1 K λf2 w2 s2 ha hl hk hi=>hK _ _ (by rw[xu ha (L s2) hl];exact h2 s2 f2 w2 hk hi)
theorem Zr {id:Nat} {l:List Oper} {y:Code} (h:WL P n l.toArray (λf w=>WC P n y Q f w) l f w):WC P n (.seq (.region id l.toArray false) y) Q f w:=Zq (cN h)
theorem Zd (S:World→World→Prop) {id:Nat} {ops:Array Oper} {y:Code} (h:∀w1,dz w w1→WT P n ops (λf w=>WC P n y Q f w) (S w1) ops.size (Array.replicate ops.size false) f w1) (hm:P.follows .mixedOrders=true:=by kernel_rfl):
  WC P n (.seq (.region id ops true) y) Q f w:=Zq (fe S hm h)
end
class DO (Q:Exit→(Nat→Value)→World→Prop) (Q':outParam (Exit→(Nat→Value)→World→Prop)):Prop where
 out:∀f w,Q' .ret f w→Q .ret f w
instance retQ_then {K:(Nat→Value)→World→Prop} {Q Q':Exit→(Nat→Value)→World→Prop} [h:DO Q Q']:DO (xY K Q) Q':=⟨λf w q=>h.out f w q⟩
instance retQ_block {id:Nat} {Q Q':Exit→(Nat→Value)→World→Prop} [h:DO Q Q']:DO (tq id Q) Q':=⟨λf w q=>h.out f w q⟩
instance retQ_body {P:Program} {rs:Array ResultVar} {Post:Value→World→Prop}:DO (mt P rs Post) (mt P rs Post):=⟨λ_ _ q=>q⟩
theorem Zt {P:Program} {n:Nat} {Q Q':Exit→(Nat→Value)→World→Prop} {f:Nat→Value} {w:World} [h:DO Q Q'] (k:Q' .ret f w):WC P n .ret Q f w:=lh (h.out f w k)
theorem ZQ {P:Program} {n:Nat} {c:Operand} {x y:Code} {Q:Exit→(Nat→Value)→World→Prop} {f:Nat→Value} {w:World} {b:Bool} {p q:Prop} [Q1 b p] [Qo b q] (hc:dg f c= .bool b) (ht:p→WC P n x Q f w) (hf:q→WC P n y Q f w):WC P n (.cond c x y) Q f w:=
 De hc (λh=>ht (Q1.t h)) (λh=>hf (Qo.f h))
section
variable {a w w':World} {b:Nat} {c:Array Value} {T:TypeId}
theorem Ze (h:Below a.heap.size a w) (k:dz w w'):Below a.heap.size a w':=cW h k (am _)
instance {a w w':World}:Kp w w' (Below a.heap.size a w) (Below a.heap.size a w'):=⟨λh k=>Ze k h⟩
theorem Zg (h:Below a.heap.size a w) (hg:w.grownBy w' (some b)) (lo:a.heap.size≤b):Below a.heap.size a w':=db h hg (am _) (λj hj=>by cases hj;exact lo)
theorem ZG {α:Type} {enc:α→List Value} {sz:Nat} {v:Value} {l:List α} (h:Below a.heap.size a w) (hg:w.grownBy w' v.ownBlock) (k:cD enc sz T w a.heap.size v l):Below a.heap.size a w':=db h hg (am _) (cD.lt k)
theorem ZO {N:Nat} (e:b=w.heap.size) (h:Below N a w):a.heap.size≤b:=e▸Below.size h
theorem Zn {b':Nat} (e:b=w.heap.size) (h:b'<w.heap.size):b'≠b:=Nat.ne_of_lt (e▸h)
end
end
section
open Go Go.RowKit
theorem IF:cX Tryz.prog 125=true:=by kernel_rfl
theorem SK:cX Tryz.prog 164=true:=by kernel_rfl
theorem F7:Tryz.prog.isIface 194=true:=by kernel_rfl
theorem wc:cX Tryz.prog 55=true:=by kernel_rfl
theorem gV:dT Tryz.prog 34=some (.agg #[.int .u8 0, .int .u8 0]):=by kernel_rfl
theorem o4:(Tryz.prog.info? 5).map (·.size)=some 1:=by kernel_rfl
theorem mr {f:Nat→Value} {w:World} {d:Option Nat} {ty:TypeId} {ps:String} {af:Array Edge} {g:Option (Nat×Bool)}:
    (execOp (dg f) ⟨d, .build 34 #[],ty,ps,af,g⟩).run Tryz.prog w= .ok (.value (.agg #[.int .u8 0, .int .u8 0])) w:=by
  obtain⟨i0,hi0,hz0⟩:=Do.1 (show (Tryz.prog.info? 34).bind (·.zero)=_ from gV)
  obtain⟨j5,hj5,hs5⟩:=go.1 o4
  simp[execOp,Instr.build,zeroValue,typeInfo,sizeOf,hi0,hz0,run_underlying Tryz.underlying34,Instr.fill,dX,hj5,hs5]
theorem cZ:j8 Tryz.prog 34=some 2:=by kernel_rfl
theorem fQ:Tryz.prog.follows .mixedOrders=true:=by kernel_rfl
theorem fE:dS Tryz.prog 34 1=some 1:=by kernel_rfl
theorem dK:eE Tryz.prog 5=true:=by kernel_rfl
theorem ea:dS Tryz.prog 34 0=some 0:=by kernel_rfl
theorem pO (line word:List UInt8) (lo hi:Int) (w:World) (hgl:Gl w) (hl:line.length≤10000) (hwl:word.length≤10) (h0:0≤lo):
    Fn Tryz.prog 124 #[eM line,eM word, .int .i64 lo, .int .i64 hi] w λv w'=>v= .int .i64 (iS line word lo hi):=by
 refine cH (n:=53) Tryz.func124 rfl rfl rfl λhB=> ?_
 refine Zr<|ZZ rfl<|Zr<|Zw (.string _) rfl<|Zw (.string _) rfl<|Zv (iC rfl rfl zX)<|ZC IF (mV _ _ _) rfl λl W5 g h=> ?_
 replace hB:=Ze hB g
 obtain rfl:=h
 refine Zw (.tuple #[.string _, .bool _]) rfl<|Zv (c7 rfl)<|Zv (da rfl)<|Zw (.string _) rfl<|Zb rfl<|ct ?_
 have htl:=Lib.trimPrefix_le line (word++[32])
 refine Zr<|Zw (.string _) rfl<|ZC SK (x7 _ _ (Gl.below hB hgl) (by omega)) rfl λm o i b=> ?_
 replace hB:=Ze hB i
 rcases b with b|b
 obtain⟨n2_1,ha2_1,rfl⟩:=b
 refine Zw (.tuple #[.int .i64 _, .nilIface]) rfl<|Zv (c7 rfl)<|Zv (da rfl)<|Zi rfl<|Zw .nilIface rfl<|ct<|Zq ?_
 have hnb:=Ha ha2_1
 have hnb1:=hnb.1
 have hnb2:=hnb.2
 refine Zr<|Zb rfl<|Zv (eR rfl)<|ZX rfl (λa=> ?_) λa=> ?_
 refine Zs<|Zs<|Zb rfl<|Zb rfl<|Zs<|Zs<|Zs<|Zb rfl<|Zb rfl<|Zs<|Zs<|Zs<|Zs<|Zb rfl ?_
 refine Zb rfl<|Zs<|Zs<|Zs<|Zb rfl<|Zb rfl<|Zs<|Zs<|Zs<|Zb rfl<|ct<|cF rfl<|Zr<|Zi rfl ?_
 refine ct<|Zt<|cV (v:= .int .i64 _) rfl ⟨hB,?_⟩
 exact TE a
 refine Zw .nilIface rfl<|Zv (Kb rfl F7)<|Zb rfl<|Zb rfl<|Zw (.string _) rfl<|Zv (yS rfl Tryz.underlying9)<|Zv (il rfl rfl)<|Zb rfl<|ZX rfl (λc=> ?_) λc=> ?_
 refine Zs<|Zs<|Zs<|Zs<|Zb rfl<|Zb rfl<|Zs<|Zs<|Zs<|Zb rfl<|Zb rfl<|Zs<|Zs<|Zs ?_
 refine Zb rfl<|ct<|cF rfl<|Zr<|ZZ rfl<|Zt<|cV (v:= .int .i64 _) rfl ⟨hB,?_⟩
 exact XL c
 refine Zi rfl<|ZC wc (jc _ _ (Gl.below hB hgl) m5 m5) rfl λp q j k=> ?_
 replace hB:=Ze hB j
 obtain rfl:=k
 refine Zw (.string _) rfl<|Zv (Pi rfl rfl)<|Zb rfl<|ZX rfl (λd=> ?_) λd=> ?_
 refine Zs<|Zs<|Zs<|Zb rfl<|Zb rfl<|Zs<|Zs<|Zs<|Zb rfl<|ct<|cF rfl<|Zr<|ZZ rfl ?_
 refine Zt<|cV (v:= .int .i64 _) rfl ⟨hB,?_⟩
 exact Xj ha2_1 d
 refine Zi rfl<|Zi rfl<|Zv (dk rfl rfl)<|Zb rfl<|ZX rfl (λe=> ?_) λe=> ?_
 refine Zs<|Zs<|Zs<|Zb rfl<|ct<|cF rfl<|Zr<|ZZ rfl<|Zt<|cV (v:= .int .i64 _) rfl ⟨hB,?_⟩
 exact Ye h0 a c d e
 refine Zi rfl<|Zi rfl<|Zv (il rfl rfl)<|Zb rfl<|ct<|ZQ rfl (λf=> ?_) λf=> ?_
 refine Zr<|ZZ rfl<|Zt<|cV (v:= .int .i64 _) rfl ⟨hB,?_⟩
 exact XA a c d f
 refine cu<|Zr<|Zi rfl<|ZZ rfl<|Zt<|cV (v:= .int .i64 _) rfl ⟨hB,?_⟩
 exact Yj h0 a c d e f
 obtain⟨ha2_1,n2_1,p2_1,rfl⟩:=b
 refine Zw (.tuple #[.int .i64 _, .iface _ _]) rfl<|Zv (c7 rfl)<|Zv (da rfl)<|Zi rfl<|Zw (.iface _ _) rfl<|ct<|Zq<|Zr<|Zb rfl<|Zv (eR rfl)<|ZX rfl (λa=> ?_) λa=> ?_
 refine Zs<|Zs<|Zb rfl<|Zb rfl<|Zs<|Zs<|Zs<|Zb rfl<|Zb rfl<|Zs<|Zs<|Zs<|Zs<|Zb rfl ?_
 refine Zb rfl<|Zs<|Zs<|Zs<|Zb rfl<|Zb rfl<|Zs<|Zs<|Zs<|Zb rfl<|ct<|cF rfl<|Zr<|Zi rfl ?_
 refine ct<|Zt<|cV (v:= .int .i64 _) rfl ⟨hB,?_⟩
 exact TE a
 refine Zw (.iface _ _) rfl<|Zv (NZ rfl F7)<|Zb rfl<|Zb rfl<|Zs<|Zs<|Zs<|Zb rfl<|Zb rfl<|Zs<|Zs<|Zs<|Zs<|Zb rfl ?_
 refine Zb rfl<|Zs<|Zs<|Zs<|Zb rfl<|Zb rfl<|Zs<|Zs<|Zs<|Zb rfl<|ct<|cF rfl<|Zr<|Zi rfl ?_
 refine ct<|Zt<|cV (v:= .int .i64 _) rfl ⟨hB,?_⟩
 exact XH ha2_1
theorem C4 (s:List UInt8) (w:World):
    Fn Tryz.prog 166 #[eM s] w λv w'=>v=if nO s=true then .tuple #[.agg #[.int .u8 ((Aw s).m:Int), .int .u8 ((Aw s).v:Int)], .int .i64 0]else .tuple #[.agg #[.int .u8 0, .int .u8 0], .int .i64 2]:=by
 refine cH (n:=44) Tryz.func166 rfl rfl rfl λhB=> ?_
 refine Zr<|Zy (cI gV rfl λC W3 D E b=> ?_)
 have f:=ZO D hB
 replace hB:=Ze hB E
 refine ZZ rfl<|Zq<|Zr<|Zw (.string _) rfl<|Zv (yS rfl Tryz.underlying9)<|Zv (il rfl rfl)<|ct<|ZQ rfl (λF=> ?_) λF=> ?_
 refine Zr<|Zv (mr)<|Zy (cz rfl rfl cZ rfl b rfl rfl λac G H=> ?_)
 replace hB:=Zg hB G f
 replace b:=H
 refine ZZ rfl<|Zt<|eI rfl cZ b rfl (v1:= .int .i64 2) rfl ⟨hB,?_⟩
 (rw[if_neg (by rw[Qw (by omega)];decide)])
 refine cu<|Zr<|Zy (cI gV rfl λI ad t J a=> ?_)
 have g:=ZO t hB
 have d:=Zn t b.lt
 obtain⟨hB,b⟩:=J.k2 hB b
 refine ct<|Zq<|Zr<|Zw (.string _) rfl<|Zy (EZ rfl Tryz.underlying9 λK ae L M N=> ?_)
 have O:=ZO L hB
 obtain⟨hB,b,a⟩:=M.k3 hB b a
 refine ct<|cx ?_
 refine cS (σ:=(Nat)) [3,3,5,6,13,42] (λi=>[]) (λi W=>(Below w.heap.size w W)∧(At W C _ 34)∧(At W I #[.int .u8 ((Ge s i:Nat):Int), .int .u8 ((Ff s i:Nat):Int)] 34)∧(qi W K s i)∧(i≤s.length)∧(∀q,q<i→ss (iY s q)=true)∧(True)) (λi=>s.length-i) (0) trivial ⟨hB,b,a,N,(my _),ef,trivial⟩ ?_
 rintro i af ag ⟨hB,b,a,hit,hi,hq,_⟩ ah h
 refine Zr ?_
 refine gK (dd:=some 13) rfl rfl rfl (Ia rfl hit (λai=> ?_) (λaj j ak P al Q k R=> ?_))
 refine Zv (qy rfl)<|ct<|Zq<|dA rfl<|cR<|Zr<|Zv (cy rfl cZ rfl a)<|Zy (cz rfl rfl cZ rfl b rfl rfl λao l S=> ?_)
 replace hB:=Zg hB l f
 replace a:=At.grownNe a (Ne.symm d) l
 replace hit:=qi.grownAt hit b l
 replace b:=S
 refine ZZ rfl<|Zt<|eI rfl cZ b rfl (v1:= .int .i64 0) rfl ⟨hB,?_⟩
 (have e:i=s.length:=(by omega);subst e;rw[if_pos (Io (by omega) hq)];rfl)
 replace hB:=Zg hB k O
 replace b:=ace b hit k
 replace a:=ace a hit k
 replace hit:=R
 refine Zv (iO rfl)<|ct<|Zq<|cF rfl<|cu<|cx<|Zr<|Zv (kf rfl)<|Zv (jS rfl)<|Zi rfl<|ZZ rfl ?_
 have hmb:=H0 s i
 have hvb:=LM s i
 have hpb:=Al (show i<8 by omega)
 refine Zr<|ZZ rfl<|cx<|Zr<|Zv (dW rfl rfl)<|Zb rfl<|ct<|ZQ rfl (λu=> ?_) λu=> ?_
 refine Zd dz λT x=> ?_
 obtain⟨hB,b,a⟩:=x.k3 hB b a
 replace hit:=x.itW hit
 have hS:=dz.refl T
 refine Tf 0 rfl rfl fE hS<|Tk 1 rfl (λ_ hq=>cB (v:= .int .u8 _) rfl dK (At.cell (hq.at a) rfl)) hS<|Ti 2 rfl rfl hS<|Tk 3 rfl (λ_ _=>jA (m:=1) rfl rfl Om (by simp only[IntKind.bits];omega) tB) hS<|Tk 4 rfl (λ_ _=>Ab (n:=_) rfl rfl rfl tk yR) hS<|Tf 5 rfl rfl fE hS<|To 6 rfl (dm (v:= .int .u8 _) rfl rfl dK rfl a gj λap o U=>⟨.inr jW,?_⟩)
 replace hB:=Zg hB o g
 replace b:=At.grownNe b d o
 replace hit:=qi.grownAt hit a o
 replace a:=U
 replace a:At _ _ #[_,_] _:=a
 refine Td ?_
 refine fe dz fQ (λV y=> ?_)
 obtain⟨hB,b,a⟩:=y.k3 hB b a
 replace hit:=y.itW hit
 have hS:=dz.refl V
 refine Tf 0 rfl rfl ea hS<|Tk 1 rfl (λ_ hq=>cB (v:= .int .u8 _) rfl dK (At.cell (hq.at a) rfl)) hS<|Ti 2 rfl rfl hS<|Tk 3 rfl (λ_ _=>jA (m:=1) rfl rfl Om (by simp only[IntKind.bits];omega) tB) hS<|Tk 4 rfl (λ_ _=>Ab (n:=_) rfl rfl rfl tk yR) hS<|Tf 5 rfl rfl ea hS<|To 6 rfl (dm (v:= .int .u8 _) rfl rfl dK rfl a gj λaq p X=>⟨.inr jW,?_⟩)
 replace hB:=Zg hB p g
 replace b:=At.grownNe b d p
 replace hit:=qi.grownAt hit a p
 replace a:=X
 replace a:At _ _ #[_,_] _:=a
 refine Td ?_
 have hbn:(iY s i=49∨iY s i=48∨iY s i=45)∧j=i+1:=by omega
 obtain⟨c,hn⟩:=hbn
 subst hn
 refine h _ _ (i+1) ?_ ?_ ?_ ?_
 · repeat (first|exact dB.mask _ _ _|refine abG ?_ rfl _|refine aby ?_ _ rfl|refine abk rfl ?_)
 · exact trivial
 · exact⟨hB,b,(by (rw[←Tu (.inr (by omega)),←XB (by omega)];exact a)),hit,(by omega),(dG hq (A7 c)),trivial⟩
 · omega
 refine Zr<|Zv (dW rfl rfl)<|Zb rfl<|ct<|ZQ rfl (λz=> ?_) λz=> ?_
 refine fe dz fQ (λY A=> ?_)
 obtain⟨hB,b,a⟩:=A.k3 hB b a
 replace hit:=A.itW hit
 have hS:=dz.refl Y
 refine Tf 0 rfl rfl ea hS<|Tk 1 rfl (λ_ hq=>cB (v:= .int .u8 _) rfl dK (At.cell (hq.at a) rfl)) hS<|Ti 2 rfl rfl hS<|Tk 3 rfl (λ_ _=>jA (m:=1) rfl rfl Om (by simp only[IntKind.bits];omega) tB) hS<|Tk 4 rfl (λ_ _=>Ab (n:=_) rfl rfl rfl tk yR) hS<|Tf 5 rfl rfl ea hS<|To 6 rfl (dm (v:= .int .u8 _) rfl rfl dK rfl a gj λar r Z=>⟨.inr jW,?_⟩)
 replace hB:=Zg hB r g
 replace b:=At.grownNe b d r
 replace hit:=qi.grownAt hit a r
 replace a:=Z
 replace a:At _ _ #[_,_] _:=a
 refine Td ?_
 have hbn:(iY s i=49∨iY s i=48∨iY s i=45)∧j=i+1:=by omega
 obtain⟨c,hn⟩:=hbn
 subst hn
 refine h _ _ (i+1) ?_ ?_ ?_ ?_
 · repeat (first|exact dB.mask _ _ _|refine abG ?_ rfl _|refine aby ?_ _ rfl|refine abk rfl ?_)
 · exact trivial
 · exact⟨hB,b,(by (rw[←Tu (.inl (by omega)),←T1 (by omega)];exact a)),hit,(by omega),(dG hq (A7 c)),trivial⟩
 · omega
 refine Zr<|Zv (dW rfl rfl)<|Zb rfl<|ct<|ZQ rfl (λB=> ?_) λB=> ?_
 refine cu ?_
 have hbn:(iY s i=49∨iY s i=48∨iY s i=45)∧j=i+1:=by omega
 obtain⟨c,hn⟩:=hbn
 subst hn
 refine h _ _ (i+1) ?_ ?_ ?_ ?_
 · repeat (first|exact dB.mask _ _ _|refine abG ?_ rfl _|refine aby ?_ _ rfl|refine abk rfl ?_)
 · exact trivial
 · exact⟨hB,b,(by (rw[←WD (by omega),←T1 (by omega)];exact a)),hit,(by omega),(dG hq (A7 c)),trivial⟩
 · omega
 refine Zr<|Zv (mr)<|Zy (cz rfl rfl cZ rfl b rfl rfl λau aa ab=> ?_)
 replace hB:=Zg hB aa f
 replace b:=ab
 refine ZZ rfl<|Zt<|eI rfl cZ b rfl (v1:= .int .i64 2) rfl ⟨hB,?_⟩
 (rw[if_neg (by rw[Uh P (Jz Q u z B)];decide)])
end
section
open Go Go.RowKit
theorem Ph:cX Tryz.prog 63=true:=by kernel_rfl
theorem Pf:cX Tryz.prog 64=true:=by kernel_rfl
theorem r9:Lm Tryz.prog 40=some (4,1):=by kernel_rfl
theorem sk:eE Tryz.prog 38=true:=by kernel_rfl
theorem ee:dT Tryz.prog 40=some (.agg #[.int .u64 0, .int .u64 0, .int .u64 0, .int .u64 0]):=by kernel_rfl
theorem cA:j8 Tryz.prog 40=some 4:=by kernel_rfl
theorem Qk:cX Tryz.prog 168=true:=by kernel_rfl
theorem CT:cX Tryz.prog 132=true:=by kernel_rfl
theorem Qb:cX Tryz.prog 133=true:=by kernel_rfl
theorem Sa:cX Tryz.prog 167=true:=by kernel_rfl
theorem sc:cX Tryz.prog 127=true:=by kernel_rfl
theorem K1:(Tryz.prog.info? 38).map (·.size)=some 1:=by kernel_rfl
theorem gg {f:Nat→Value} {w:World} {d:Option Nat} {ty:TypeId} {ps:String} {af:Array Edge} {g:Option (Nat×Bool)}:
    (execOp (dg f) ⟨d, .build 40 #[],ty,ps,af,g⟩).run Tryz.prog w= .ok (.value (.agg #[.int .u64 0, .int .u64 0, .int .u64 0, .int .u64 0])) w:=by
  obtain⟨i0,hi0,hz0⟩:=Do.1 (show (Tryz.prog.info? 40).bind (·.zero)=_ from ee)
  obtain⟨j38,hj38,hs38⟩:=go.1 K1
  simp[execOp,Instr.build,zeroValue,typeInfo,sizeOf,hi0,hz0,run_underlying Tryz.underlying40,Instr.fill,dX,hj38,hs38]
theorem un {f:Nat→Value} {w:World} {d:Option Nat} {ty t2:TypeId} {ps:String} {af:Array Edge} {g:Option (Nat×Bool)} {x y:Operand} {a0 a1 a2 a3 b0 b1 b2 b3:Int} (hx:dg f x= .agg #[.int .u64 a0, .int .u64 a1, .int .u64 a2, .int .u64 a3]) (hy:dg f y= .agg #[.int .u64 b0, .int .u64 b1, .int .u64 b2, .int .u64 b3]):
    (execOp (dg f) ⟨d, .binOp .eql 40 x y t2,ty,ps,af,g⟩).run Tryz.prog w= .ok (.value (.bool (decide ((a0=b0∧a1=b1∧a2=b2∧a3=b3))))) w:=by
  have hg:Tryz.prog.eqGuardType Tryz.prog.depth 40=false:=by kernel_rfl
  have ha:=mK (P:=Tryz.prog) w 9999 4 40 38 #[.int .u64 a0, .int .u64 a1, .int .u64 a2, .int .u64 a3] #[.int .u64 b0, .int .u64 b1, .int .u64 b2, .int .u64 b3]
    (λi=> .int .u64 ([a0,a1,a2,a3].getD i 0)) (λi=> .int .u64 ([b0,b1,b2,b3].getD i 0)) (λi=>[a0,a1,a2,a3].getD i 0==[b0,b1,b2,b3].getD i 0) Tryz.underlying40 jW (by simp[isAgg,run_underlying Tryz.underlying38])
    (λi hi=>by
      have:i=0∨i=1∨i=2∨i=3:=by omega
      rcases this with rfl|rfl|rfl|rfl<;>rfl)
    (λi hi=>by
      have:i=0∨i=1∨i=2∨i=3:=by omega
      rcases this with rfl|rfl|rfl|rfl<;>rfl)
    (λi hi=>run_equalIn_int w 9998 38 .u64 .u64 _ _ Tryz.underlying38)
  simp only[execOp,hx,hy,Sem.run_bind,run_eqGuard_agg _ _ _ _ _ _ _ hg,Result.andThen_ok,run_eql_struct,ha]
  simp[List.range,List.range.loop]
  by_cases q0:a0=b0<;>by_cases q1:a1=b1<;>by_cases q2:a2=b2<;>by_cases q3:a3=b3<;>simp[q0,q1,q2,q3]
theorem yj:cX Tryz.prog 61=true:=by kernel_rfl
theorem GD:cX Tryz.prog 20=true:=by kernel_rfl
theorem cM:fj Tryz.prog 35=some (3,1,8):=by kernel_rfl
theorem eQ:(dT Tryz.prog 3).map (λz=>z.cells.size)=some 1:=by kernel_rfl
theorem um:cX Tryz.prog 180=true:=by kernel_rfl
theorem cK:eE Tryz.prog 3=true:=by kernel_rfl
theorem Bu (p:Int) (w:World):
    Fn Tryz.prog 63 #[.int .i64 p] w λv w'=>v= .bool (mM p):=by
 refine cH (n:=9) Tryz.func63 rfl rfl rfl λhB=> ?_
 refine Zr<|Zb rfl<|ct<|Zr<|Zi rfl<|Zv (mT rfl rfl)<|ZX rfl (λa=> ?_) λa=> ?_
 refine Zi rfl<|Zv (dk rfl rfl)<|Zb rfl<|Zb rfl<|ct<|Zt<|cV (v:= .bool _) rfl ⟨hB,?_⟩
 simp[mM];omega
 refine Zs<|Zs<|Zb rfl<|Zb rfl<|ct<|Zt<|cV (v:= .bool false) rfl ⟨hB,?_⟩
 simp[mM];omega
theorem FN (p:Int) (w:World) (h0:0≤p) (h1:p<256):
    Fn Tryz.prog 64 #[.int .i64 p] w λv w'=>v= .tuple #[.int .i64 ((p.toNat/64:Nat):Int), .int .u64 ((2^(p.toNat%64):Nat):Int)]:=by
 refine cH (n:=9) Tryz.func64 rfl rfl rfl λhB=> ?_
 obtain⟨q,rfl⟩:=aau h0
 have hq:q<256:=by omega
 refine Zr<|Zi rfl<|ZZ rfl<|Zd dz λW5 a=> ?_
 replace hB:=Ze hB a
 have hS:=dz.refl W5
 refine Ti 0 rfl rfl hS<|Tk 1 rfl (λ_ _=>vA (n:=64) rfl rfl rfl Om tk) hS<|Ti 2 rfl rfl hS<|Tk 3 rfl (λ_ _=>yF (n:=64) rfl rfl rfl Om) hS<|Tk 4 rfl (λ_ _=>jA (m:=1) rfl rfl Om (by simp only[IntKind.bits];omega) tB) hS<|Ti 5 rfl rfl hS<|Ti 6 rfl rfl hS<|Td<|Zt<|dL (v:= .int .i64 _) rfl (v1:= .int .u64 _) rfl ⟨hB,?_⟩
 have e:((q:Int)%64).toNat=q%64:=by omega
 simp[e]
theorem vR (s:Nat) (p:Int) (w:World):
    Fn Tryz.prog 20 #[eb s, .int .i64 p] w λv w'=>v= .bool (vM s p):=by
 refine cH (n:=21) Tryz.func20 rfl rfl rfl λhB=> ?_
 refine Zr<|Zy (dt (c:= #[_,_,_,_]) rfl rfl λi W3 j d b=> ?_)
 replace hB:=Ze hB d
 refine Zb rfl<|ct<|Zq<|Zr<|Zi rfl<|ZC Ph (Bu _ _) rfl λk l e f=> ?_
 obtain⟨hB,b⟩:=e.k2 hB b
 obtain rfl:=f
 refine Zv (eR rfl)<|ct<|ZQ rfl (λa=> ?_) λa=> ?_
 refine Zr<|Zb rfl<|ct<|Zt<|cV (v:= .bool false) rfl ⟨hB,?_⟩
 (simp at a;simp[vM,a])
 refine cu<|Zr<|Zi rfl<|ZC Pf (FN _ _ (by simp[mM]at a;omega) (by simp[mM]at a;omega)) rfl λm o g h=> ?_
 obtain⟨hB,b⟩:=g.k2 hB b
 obtain rfl:=h
 obtain⟨q,rfl⟩:=aau (show 0≤p by simp[mM]at a;omega)
 have hq:q<256:=by simp[mM]at a;omega
 simp only[so]
 refine Zw (.tuple #[.int .i64 _, .int .u64 _]) rfl<|Zv (c7 rfl)<|Zv (da rfl)<|Zi rfl<|ZZ rfl<|Zr<|Zi rfl<|Zv (fo rfl rfl r9 Om Om)<|Zv (cB (v:=wv s _) rfl sk (At.cell b (uS s _ Om)))<|Zi rfl<|Zv (mZ (n:=_) rfl rfl rfl (by exact Nb _ _) (by rw[←aap (2^_)];exact Vg _ _ XD))<|Zv (il rfl rfl)<|Zb rfl ?_
 refine ct<|Zt<|cV (v:= .bool _) rfl ⟨hB,?_⟩
 exact congrArg Value.bool (Ka hq)
theorem nU (s:Nat) (p:Int) (w:World):
    Fn Tryz.prog 61 #[eb s, .int .i64 p] w λv w'=>v=eb (mX s p):=by
 refine cH (n:=21) Tryz.func61 rfl rfl rfl λhB=> ?_
 refine Zr<|Zy (dt (c:= #[_,_,_,_]) rfl rfl λC W3 h i b=> ?_)
 have j:=ZO h hB
 replace hB:=Ze hB i
 refine Zy (cI ee rfl λk W6 e l a=> ?_)
 have f:=ZO e hB
 have m:=Zn e b.lt
 obtain⟨hB,b⟩:=l.k2 hB b
 replace a:At W6 k #[wv 0 0,wv 0 1,wv 0 2,wv 0 3] 40:=a
 refine ct<|Zq<|Zr<|Zi rfl<|ZC Ph (Bu _ _) rfl λD E o r=> ?_
 obtain⟨hB,b,a⟩:=o.k3 hB b a
 obtain rfl:=r
 refine ct<|ZQ rfl (λd=> ?_) λd=> ?_
 refine Zr<|Zi rfl<|ZC Pf (FN _ _ (by simp[mM]at d;omega) (by simp[mM]at d;omega)) rfl λF G t u=> ?_
 obtain⟨hB,b,a⟩:=t.k3 hB b a
 obtain rfl:=u
 obtain⟨q,rfl⟩:=aau (show 0≤p by simp[mM]at d;omega)
 have hq:q<256:=by simp[mM]at d;omega
 simp only[so]
 refine Zw (.tuple #[.int .i64 _, .int .u64 _]) rfl<|Zv (c7 rfl)<|Zv (da rfl)<|Zi rfl<|ZZ rfl<|cN<|Zi rfl<|Zv (fo rfl rfl r9 Om Om)<|Zv (cB (v:=wv s _) rfl sk (At.cell b (uS s _ Om)))<|Zi rfl<|Zv (Ab (n:=_) rfl rfl rfl (by exact Nb _ _) (by rw[←aap (2^_)];exact Vg _ _ XD))<|Zv (fo rfl rfl r9 Om Om)<|Zy (dm (v:= .int .u64 _) rfl rfl sk rfl b iq λH g x=> ?_)
 replace hB:=Zg hB g j
 replace a:=At.grownNe a (Ne.symm m) g
 replace b:=x
 rw[Nw (s':=mX s q) (by omega) (N0 hq)]at b
 refine ct<|Zr<|Zv (cy rfl cA rfl b)<|Zy (cz rfl rfl cA rfl a rfl rfl λI y z=> ?_)
 replace hB:=Zg hB y f
 replace a:=z
 refine ct<|Zt<|jr rfl cA a rfl ⟨hB,?_⟩
 rfl
 refine cu<|Zr<|Zv (cy rfl cA rfl b)<|Zy (cz rfl rfl cA rfl a rfl rfl λJ A B=> ?_)
 replace hB:=Zg hB A f
 replace a:=B
 refine ct<|Zt<|jr rfl cA a rfl ⟨hB,?_⟩
 (simp[mX,d])
theorem s7 (s t q:Nat) (op:Nat→Nat→Nat) (w:World) (hq:cX Tryz.prog q=true) (hdo:∀(x y:Nat) (w:World),x<18446744073709551616→y<18446744073709551616→Fn Tryz.prog q #[.int .u64 (x:Int), .int .u64 (y:Int)] w λv w'=>v= .int .u64 ((op x y:Nat):Int)):
    Fn Tryz.prog 132 #[eb s,eb t, .func (.func q) #[] #[]] w λv w'=>v= .agg (Gh op s t 4):=by
 refine cH (n:=24) Tryz.func132 rfl rfl rfl λhB=> ?_
 refine Zr<|Zy (dt (c:= #[_,_,_,_]) rfl rfl λo W3 O p a=> ?_)
 replace hB:=Ze hB p
 refine Zy (dt (c:= #[_,_,_,_]) rfl rfl λr W6 P u d=> ?_)
 obtain⟨hB,a⟩:=u.k2 hB a
 refine Zy (cI ee rfl λi W9 z A b=> ?_)
 have B:=ZO z hB
 obtain⟨hB,a,d⟩:=A.k3 hB a d
 replace b:At W9 i #[wv 0 0,wv 0 1,wv 0 2,wv 0 3] 40:=b
 refine ct<|Zr<|Zy (cI ee rfl λj C f D e=> ?_)
 have E:=ZO f hB
 have F:=Zn f a.lt
 have G:=Zn f d.lt
 have l:=Zn f b.lt
 obtain⟨hB,a,d,b⟩:=D.k4 hB a d b
 replace e:At C j #[wv 0 0,wv 0 1,wv 0 2,wv 0 3] 40:=e
 refine ct<|Zq<|Zr<|ZZ rfl<|cx ?_
 refine cS (σ:=(Nat)) [8,22] (λk=>[(9, .int .i64 (k:Int))]) (λk W=>(Below w.heap.size w W)∧(At W o _ 40)∧(At W r _ 40)∧(At W i _ 40)∧(At W j (Gh op s t k) 40)∧(k≤4)∧(True)) (λk=>4-k) (0) ⟨rfl,trivial⟩ ⟨hB,a,d,b,e,Om,trivial⟩ ?_
 rintro k Q R ⟨hB,a,d,b,e,hk,_⟩ S H
 refine Zr<|Zv (dk rfl rfl)<|ct<|Zq<|ZQ rfl (λI=> ?_) λI=> ?_
 refine cu<|Zq<|cx<|Zr<|Zi rfl<|ZZ rfl ?_
 refine fe dz fQ (λJ K=> ?_)
 obtain⟨hB,a,d,b,e⟩:=K.k5 hB a d b e
 have hS:=dz.refl J
 refine Ti 0 rfl rfl hS<|Tw 1 (.func (.func q) #[] #[]) rfl rfl hS<|Ti 2 rfl rfl hS<|Tk 3 rfl (λ_ _=>fo rfl rfl r9 Om Om) hS<|Tk 4 rfl (λ_ hq=>cB (v:= .int .u64 _) rfl sk (At.cell (hq.at a) (uS s k Om))) hS<|Ti 5 rfl rfl hS<|Tk 6 rfl (λ_ _=>fo rfl rfl r9 Om Om) hS<|Tk 7 rfl (λ_ hq=>cB (v:= .int .u64 _) rfl sk (At.cell (hq.at d) (uS t k Om))) hS<|To 8 rfl (Yd.call (yr (q:=q) rfl hq (v0:= .int .u64 _) rfl (v1:= .int .u64 _) rfl) (hdo _ _ _ (wl _ _) (wl _ _)) λT U h L=>⟨.inl (hS.trans h),?_⟩)
 obtain⟨hB,a,d,b,e⟩:=h.k5 hB a d b e
 replace hS:=hS.trans h
 obtain rfl:=L
 refine Tk 9 rfl (λ_ _=>fo rfl rfl r9 Om Om) hS<|To 10 rfl (dm (v:= .int .u64 _) rfl rfl sk rfl e (by simp[Kl];omega) λV g M=>⟨.inr jW,?_⟩)
 replace hB:=Zg hB g E
 replace a:=At.grownNe a F g
 replace d:=At.grownNe d G g
 replace b:=At.grownNe b l g
 replace e:=M
 rw[NF op s t k (by omega)]at e
 refine Td<|ZT rfl rfl rfl ?_
 exact H _ _ (k+1) Za ⟨rfl,trivial⟩ ⟨hB,a,d,b,e,Om,trivial⟩ Zo
 refine cR<|Zr<|Zv (cy rfl cA rfl e)<|Zy (cz rfl rfl cA rfl b rfl rfl λX m N=> ?_)
 replace hB:=Zg hB m B
 replace e:=At.grownNe e (Ne.symm l) m
 replace b:=N
 refine ct<|Zt<|jr rfl cA b rfl ⟨hB,?_⟩
 obtain rfl:k=4:=by omega
 rfl
theorem Gx (x y:Nat) (w:World) (hx:x<18446744073709551616) (hy:y<18446744073709551616):
    Fn Tryz.prog 168 #[.int .u64 (x:Int), .int .u64 (y:Int)] w λv w'=>v= .int .u64 ((x ||| y:Nat):Int):=by
 refine cH (n:=8) Tryz.func168 rfl rfl rfl λhB=> ?_
 refine Zr<|ZZ rfl<|Zr<|Zi rfl<|Zi rfl<|Zv (Ab (n:=_) rfl rfl rfl m5 m5)<|ZZ rfl<|Zt<|cV (v:= .int .u64 _) rfl ⟨hB,?_⟩
 rfl
theorem pj (s t:Nat) (w:World):
    Fn Tryz.prog 131 #[eb s,eb t] w λv w'=>v=eb (s ||| t):=by
 refine cH (n:=8) Tryz.func131 rfl rfl rfl λhB=> ?_
 refine Zr<|Zy (dt (c:= #[_,_,_,_]) rfl rfl λq W3 u f b=> ?_)
 replace hB:=Ze hB f
 refine Zy (dt (c:= #[_,_,_,_]) rfl rfl λz W6 A g d=> ?_)
 obtain⟨hB,b⟩:=g.k2 hB b
 refine Zy (cI ee rfl λh W9 i k a=> ?_)
 have l:=ZO i hB
 obtain⟨hB,b,d⟩:=k.k3 hB b d
 replace a:At W9 h #[wv 0 0,wv 0 1,wv 0 2,wv 0 3] 40:=a
 refine ct<|Zr<|Zv (cy rfl cA rfl b)<|Zv (cy rfl cA rfl d)<|ZC (vs:=[.agg #[_,_,_,_], .agg #[_,_,_,_], .func (.func 168) #[] #[]]) CT (s7 s t 168 (λx y=>x ||| y) _ Qk (λx y w hx hy=>Gx x y w hx hy)) rfl λB C m e=> ?_
 obtain⟨hB,a⟩:=m.k2 hB a
 rw[zn (r:=s ||| t) (λj=>TM s t j)]at e
 obtain rfl:=e
 refine Zy (cz rfl rfl cA rfl a rfl rfl λD o p=> ?_)
 replace hB:=Zg hB o l
 replace a:=p
 refine ct<|Zt<|jr rfl cA a rfl ⟨hB,?_⟩
 rfl
theorem Fv (x y:Nat) (w:World) (hx:x<18446744073709551616) (hy:y<18446744073709551616):
    Fn Tryz.prog 133 #[.int .u64 (x:Int), .int .u64 (y:Int)] w λv w'=>v= .int .u64 ((x &&& y:Nat):Int):=by
 refine cH (n:=8) Tryz.func133 rfl rfl rfl λhB=> ?_
 refine Zr<|ZZ rfl<|Zr<|Zi rfl<|Zi rfl<|Zv (mZ (n:=_) rfl rfl rfl m5 m5)<|ZZ rfl<|Zt<|cV (v:= .int .u64 _) rfl ⟨hB,?_⟩
 rfl
theorem pp (s t:Nat) (w:World):
    Fn Tryz.prog 83 #[eb s,eb t] w λv w'=>v=eb (s &&& t):=by
 refine cH (n:=8) Tryz.func83 rfl rfl rfl λhB=> ?_
 refine Zr<|Zy (dt (c:= #[_,_,_,_]) rfl rfl λq W3 u f b=> ?_)
 replace hB:=Ze hB f
 refine Zy (dt (c:= #[_,_,_,_]) rfl rfl λz W6 A g d=> ?_)
 obtain⟨hB,b⟩:=g.k2 hB b
 refine Zy (cI ee rfl λh W9 i k a=> ?_)
 have l:=ZO i hB
 obtain⟨hB,b,d⟩:=k.k3 hB b d
 replace a:At W9 h #[wv 0 0,wv 0 1,wv 0 2,wv 0 3] 40:=a
 refine ct<|Zr<|Zv (cy rfl cA rfl b)<|Zv (cy rfl cA rfl d)<|ZC (vs:=[.agg #[_,_,_,_], .agg #[_,_,_,_], .func (.func 133) #[] #[]]) CT (s7 s t 133 (λx y=>x &&& y) _ Qb (λx y w hx hy=>Fv x y w hx hy)) rfl λB C m e=> ?_
 obtain⟨hB,a⟩:=m.k2 hB a
 rw[zn (r:=s &&& t) (λj=>VN s t j)]at e
 obtain rfl:=e
 refine Zy (cz rfl rfl cA rfl a rfl rfl λD o p=> ?_)
 replace hB:=Zg hB o l
 replace a:=p
 refine ct<|Zt<|jr rfl cA a rfl ⟨hB,?_⟩
 rfl
theorem CO (x y:Nat) (w:World) (hx:x<18446744073709551616) (hy:y<18446744073709551616):
    Fn Tryz.prog 167 #[.int .u64 (x:Int), .int .u64 (y:Int)] w λv w'=>v= .int .u64 ((andNot x y:Nat):Int):=by
 refine cH (n:=8) Tryz.func167 rfl rfl rfl λhB=> ?_
 refine Zr<|ZZ rfl<|Zr<|Zi rfl<|Zi rfl<|Zv (qB (n:=_) rfl rfl rfl m5 m5)<|ZZ rfl<|Zt<|cV (v:= .int .u64 _) rfl ⟨hB,?_⟩
 rfl
theorem l7 (s t:Nat) (w:World):
    Fn Tryz.prog 127 #[eb s,eb t] w λv w'=>v=eb (andNot s t):=by
 refine cH (n:=8) Tryz.func127 rfl rfl rfl λhB=> ?_
 refine Zr<|Zy (dt (c:= #[_,_,_,_]) rfl rfl λq W3 u f b=> ?_)
 replace hB:=Ze hB f
 refine Zy (dt (c:= #[_,_,_,_]) rfl rfl λz W6 A g d=> ?_)
 obtain⟨hB,b⟩:=g.k2 hB b
 refine Zy (cI ee rfl λh W9 i k a=> ?_)
 have l:=ZO i hB
 obtain⟨hB,b,d⟩:=k.k3 hB b d
 replace a:At W9 h #[wv 0 0,wv 0 1,wv 0 2,wv 0 3] 40:=a
 refine ct<|Zr<|Zv (cy rfl cA rfl b)<|Zv (cy rfl cA rfl d)<|ZC (vs:=[.agg #[_,_,_,_], .agg #[_,_,_,_], .func (.func 167) #[] #[]]) CT (s7 s t 167 (λx y=>andNot x y) _ Sa (λx y w hx hy=>CO x y w hx hy)) rfl λB C m e=> ?_
 obtain⟨hB,a⟩:=m.k2 hB a
 rw[zn (r:=andNot s t) (λj=>Lq s t j)]at e
 obtain rfl:=e
 refine Zy (cz rfl rfl cA rfl a rfl rfl λD o p=> ?_)
 replace hB:=Zg hB o l
 replace a:=p
 refine ct<|Zt<|jr rfl cA a rfl ⟨hB,?_⟩
 rfl
theorem iL (s t:Nat) (w:World):
    Fn Tryz.prog 79 #[eb s,eb t] w λv w'=>v= .bool (eO s t):=by
 refine cH (n:=10) Tryz.func79 rfl rfl rfl λhB=> ?_
 refine Zr<|Zy (dt (c:= #[_,_,_,_]) rfl rfl λh W3 i b a=> ?_)
 replace hB:=Ze hB b
 refine Zy (dt (c:= #[_,_,_,_]) rfl rfl λj W6 k d e=> ?_)
 obtain⟨hB,a⟩:=d.k2 hB a
 refine Zb rfl<|ct<|Zr<|Zv (cy rfl cA rfl a)<|Zv (cy rfl cA rfl e)<|ZC (vs:=[.agg #[_,_,_,_], .agg #[_,_,_,_]]) sc (l7 _ _ _) rfl λl m f g=> ?_
 replace hB:=Ze hB f
 obtain rfl:=g
 refine Zv (v:=eb 0) (gg)<|Zv (un rfl rfl)<|Zb rfl<|ct<|Zt<|cV (v:= .bool _) rfl ⟨hB,?_⟩
 simp[eO,Sy]
theorem nn (n:Int) (w:World):
    Fn Tryz.prog 80 #[.int .i64 n] w λv w'=>v=if 0≤n∧n≤8 then .tuple #[eb (fh n.toNat), .int .i64 0]else .tuple #[eb 0, .int .i64 1]:=by
 refine cH (n:=23) Tryz.func80 rfl rfl rfl λhB=> ?_
 refine Zr<|Zy (cI ee rfl λe W3 l o a=> ?_)
 have d:=ZO l hB
 replace hB:=Ze hB o
 replace a:At W3 e #[wv 0 0,wv 0 1,wv 0 2,wv 0 3] 40:=a
 refine ZZ rfl<|Zq<|Zr<|Zi rfl<|Zv (dk rfl rfl)<|ZX rfl (λp=> ?_) λp=> ?_
 refine Zs<|Zs<|Zb rfl<|ct<|cF rfl<|Zr<|Zv (v:=eb 0) (gg)<|Zy (cz rfl rfl cA rfl a rfl rfl λF q r=> ?_)
 replace hB:=Zg hB q d
 replace a:=r
 refine ZZ rfl<|Zt<|eI rfl cA a rfl (v1:= .int .i64 1) rfl ⟨hB,?_⟩
 rw[if_neg (by omega)]
 refine Zi rfl<|Zv (il rfl rfl)<|Zb rfl<|ct<|ZQ rfl (λs=> ?_) λs=> ?_
 refine Zr<|Zv (v:=eb 0) (gg)<|Zy (cz rfl rfl cA rfl a rfl rfl λG t u=> ?_)
 replace hB:=Zg hB t d
 replace a:=u
 refine ZZ rfl<|Zt<|eI rfl cA a rfl (v1:= .int .i64 1) rfl ⟨hB,?_⟩
 rw[if_neg (by omega)]
 refine cu ?_
 have hn:0≤n∧n≤8:=by omega
 refine Zr<|Zy (cI ee rfl λf x g y b=> ?_)
 have z:=ZO g hB
 have h:=Zn g a.lt
 obtain⟨hB,a⟩:=y.k2 hB a
 replace b:At x f #[wv 0 0,wv 0 1,wv 0 2,wv 0 3] 40:=b
 refine ct<|Zq ?_
 have hp:=fq hn.2
 refine Zr<|Zi rfl<|Zv (jA (m:=1) rfl rfl Om (by simp only[IntKind.bits];omega) tB)<|ZZ rfl<|cx ?_
 refine cS (σ:=(Nat)) [5,5,15,21] (λk=>[(15, .int .i64 (k:Int))]) (λk W=>(Below w.heap.size w W)∧(At W e _ 40)∧(At W f #[wv (tF k) 0,wv (tF k) 1,wv (tF k) 2,wv (tF k) 3] 40)∧(k≤2^n.toNat)∧(True)) (λk=>2^n.toNat-k) (0) ⟨rfl,trivial⟩ ⟨hB,a,b,(my _),trivial⟩ ?_
 rintro k H I ⟨hB,a,b,hk,_⟩ J A
 refine Zr<|Zv (dk rfl rfl)<|ct<|Zq<|ZQ rfl (λc=> ?_) λc=> ?_
 refine cu<|Zq<|cx<|Zr<|Zi rfl<|ZZ rfl<|cN<|Zv (cy rfl cA rfl b)<|Zi rfl<|ZC (vs:=[.agg #[_,_,_,_], .int .i64 _]) yj (nU _ _ _) rfl λK L B C=> ?_
 obtain⟨hB,a,b⟩:=B.k3 hB a b
 obtain rfl:=C
 rw[CK (by simp only[aap]at c;omega)]
 refine Zy (cz rfl rfl cA rfl b rfl rfl λM i D=> ?_)
 replace hB:=Zg hB i z
 replace a:=At.grownNe a h i
 replace b:=D
 refine ct<|ZT rfl rfl rfl ?_
 exact A _ _ (k+1) Za ⟨rfl,trivial⟩ ⟨hB,a,b,(by simp only[aap]at c;omega),trivial⟩ (by simp only[aap]at c;omega)
 refine cR<|Zr<|Zv (cy rfl cA rfl b)<|Zy (cz rfl rfl cA rfl a rfl rfl λN j E=> ?_)
 replace hB:=Zg hB j d
 replace b:=At.grownNe b (Ne.symm h) j
 replace a:=E
 refine ZZ rfl<|Zt<|eI rfl cA a rfl (v1:= .int .i64 0) rfl ⟨hB,?_⟩
 obtain rfl:k=2^n.toNat:=by simp only[aap]at c;omega
 rw[if_pos hn];rfl
theorem nE (s:Nat) (w:World):
    Fn Tryz.prog 180 #[eb s] w λv w'=>cD dJ 1 3 w' w.heap.size v (d7 s):=by
 refine cH (n:=17) Tryz.func180 rfl rfl rfl λhB=> ?_
 refine Zr<|Zy (dt (c:= #[_,_,_,_]) rfl rfl λl W3 y m a=> ?_)
 replace hB:=Ze hB m
 refine Zw (.slice none 0 0) rfl<|ct<|Zr<|Zw (.slice none 0 0) rfl<|ct<|Zq<|Zr<|ZZ rfl<|cx ?_
 refine cS (σ:=(Nat)×(Value)) [3,15] (λ(k,v0)=>[(5, .int .i64 (k:Int)),(3,v0)]) (λsg W=>match sg with|(k,v0)=>(Below w.heap.size w W)∧(At W l _ 40)∧(cD dJ 1 3 W w.heap.size v0 (tH s k))∧(k≤256)∧(True)) (λ(k,v0)=>256-k) ((0, .slice none 0 0)) ⟨rfl,rfl,trivial⟩ ⟨hB,a,cD.nil,Om,trivial⟩ ?_
 rintro⟨k,v0⟩ z A ⟨hB,a,ho,hk,_⟩ B f
 refine Zr<|Zv (dk rfl rfl)<|ct<|Zq<|ZQ rfl (λo=> ?_) λo=> ?_
 refine cu<|Zq<|cx<|Zr<|Zi rfl<|ZZ rfl<|Zr<|Zv (cy rfl cA rfl a)<|Zi rfl<|ZC (vs:=[.agg #[_,_,_,_], .int .i64 _]) GD (vR _ _ _) rfl λC D p q=> ?_
 obtain⟨hB,a,ho⟩:=p.k3 hB a ho
 obtain rfl:=q
 refine ct<|ZQ rfl (λd=> ?_) λd=> ?_
 refine cN<|Zw v0 rfl<|Zi rfl<|Zy (eK (u:= .int .i64 _) rfl cM eQ rfl Dd Dd λg E h r t=> ?_)
 have F:=ZO h hB
 have G:=aaQ (b:=g) ho (aae h.symm)
 obtain⟨hB,a,ho⟩:=r.k3 hB a ho
 refine Zy (dZ (v:=v0) (v2:= .slice (some ⟨g,0,none⟩) 1 1) rfl rfl cM eQ Dd ho (eT t rfl) rfl (n4 hB) (by have:=s8 s k;omega) (by have:=s8 s k;omega) λi H j e=> ?_)
 replace e:=cD.snoc (enc:=dJ) (x:=_) rfl rfl rfl rfl e
 replace hB:=ZG hB j ho
 replace a:=At.grownOw a ho j Dd
 refine Zw i rfl<|ct<|ZT rfl rfl rfl ?_
 rw[y6 (by omega)]at d
 exact f _ _ ((k+1,i)) Za ⟨rfl,rfl,trivial⟩ ⟨hB,a,(by (rw[wy,if_pos d];exact e)),Om,trivial⟩ Yk
 refine cu<|ZT rfl rfl rfl ?_
 rw[y6 (by omega)]at d
 exact f _ _ ((k+1,v0)) Za ⟨rfl,rfl,trivial⟩ ⟨hB,a,(by (rw[wy,if_neg (by rw[d];decide)];exact ho)),Om,trivial⟩ Yk
 refine cR<|Zr<|Zw v0 rfl<|Zw v0 rfl<|ct<|Zt<|cV (v:=v0) rfl ⟨hB,?_⟩
 obtain rfl:k=256:=by omega
 exact ho
theorem zQ (s:Nat) (i:Int) (one:Bool) (w:World):
    Fn Tryz.prog 155 #[eb s, .int .i64 i, .bool one] w λv w'=>v=eb (if 0≤i∧i<8 then qo s i.toNat one else 0):=by
 refine cH (n:=36) Tryz.func155 rfl rfl rfl λhB=> ?_
 refine Zr<|Zy (dt (c:= #[_,_,_,_]) rfl rfl λx W3 T y d=> ?_)
 replace hB:=Ze hB y
 refine Zy (cI ee rfl λo W6 z A a=> ?_)
 have h:=ZO z hB
 obtain⟨hB,d⟩:=A.k2 hB d
 replace a:At W6 o #[wv 0 0,wv 0 1,wv 0 2,wv 0 3] 40:=a
 refine ct<|Zr<|Zy (cI ee rfl λq B j C b=> ?_)
 have D:=ZO j hB
 have E:=Zn j d.lt
 have r:=Zn j a.lt
 obtain⟨hB,d,a⟩:=C.k3 hB d a
 replace b:At B q #[wv 0 0,wv 0 1,wv 0 2,wv 0 3] 40:=b
 refine ct<|Zq<|Zr<|Zi rfl<|Zv (dk rfl rfl)<|ZX rfl (λF=> ?_) λF=> ?_
 refine Zs<|Zs<|Zb rfl<|ct<|cF rfl<|Zr<|Zv (cy rfl cA rfl b)<|Zy (cz rfl rfl cA rfl a rfl rfl λU G H=> ?_)
 replace hB:=Zg hB G h
 replace a:=H
 refine ct<|Zt<|jr rfl cA a rfl ⟨hB,?_⟩
 rw[if_neg (by omega)]
 refine Zi rfl<|Zv (mT rfl rfl)<|Zb rfl<|ct<|ZQ rfl (λI=> ?_) λI=> ?_
 refine Zr<|Zv (cy rfl cA rfl b)<|Zy (cz rfl rfl cA rfl a rfl rfl λV J K=> ?_)
 replace hB:=Zg hB J h
 replace a:=K
 refine ct<|Zt<|jr rfl cA a rfl ⟨hB,?_⟩
 rw[if_neg (by omega)]
 refine cu<|Zq ?_
 have hi:0≤i∧i<8:=by omega
 have hl:=lZ s
 refine Zr<|Zv (cy rfl cA rfl d)<|ZC (vs:=[.agg #[_,_,_,_]]) um (nE _ _) rfl λl X L e=> ?_
 have M:=(Below.size hB)
 obtain⟨hB,d,a,b⟩:=L.k4 hB d a b
 replace e:=cD.mono e M
 refine Zv (cT (v:=l) rfl e.sl cM)<|ZZ rfl<|cx ?_
 refine cS (σ:=(Nat)) [9,9,20,34] (λk=>[(20, .int .i64 (k:Int))]) (λk W=>(Below w.heap.size w W)∧(At W x _ 40)∧(At W o _ 40)∧(cD dJ 1 3 W w.heap.size l _)∧(At W q #[wv (oQ (d7 s) i.toNat one k) 0,wv (oQ (d7 s) i.toNat one k) 1,wv (oQ (d7 s) i.toNat one k) 2,wv (oQ (d7 s) i.toNat one k) 3] 40)∧(k≤(d7 s).length)∧(True)) (λk=>(d7 s).length-k) (0) ⟨rfl,trivial⟩ ⟨hB,d,a,e,b,(my _),trivial⟩ ?_
 rintro k Y Z ⟨hB,d,a,e,b,hk,_⟩ aa t
 refine Zr<|Zv (dk rfl rfl)<|ct<|Zq<|ZQ rfl (λN=> ?_) λN=> ?_
 refine cu<|Zq<|cx<|Zr<|Zv (df (v:=l) rfl e.sl rfl cM Om Om)<|Zv (cB (v:= .int .i64 _) rfl cK (dh.cell e.sl dI 0 Om Om 0 rfl))<|ZZ rfl ?_
 obtain⟨p,ab,ac,m⟩:=lV (s:=s) (i:=k) (by omega)
 have O:(d7 s).getD (k:Int).toNat 0=(p:Int):=m
 rw[O]
 refine Zr<|Zi rfl<|Zi rfl<|Zv (qd rfl rfl Om (by simp only[IntKind.bits];omega))<|Zv (mZ (n:=1) rfl rfl rfl (by exact aaw (aaY _ _) oG) tk)<|Zv (dW rfl rfl)<|Zb rfl<|Zv (Hf rfl rfl Tryz.underlying4)<|ct<|ZQ rfl (λf=> ?_) λf=> ?_
 refine cN<|Zv (cy rfl cA rfl b)<|Zi rfl<|ZC (vs:=[.agg #[_,_,_,_], .int .i64 _]) yj (nU _ _ _) rfl λad ae P Q=> ?_
 obtain⟨hB,d,a,e,b⟩:=P.k5 hB d a e b
 obtain rfl:=Q
 refine Zy (cz rfl rfl cA rfl b rfl rfl λaf g R=> ?_)
 replace hB:=Zg hB g D
 replace d:=At.grownNe d E g
 replace a:=At.grownNe a r g
 replace e:=cD.grownAt e b g Dd
 replace b:=R
 refine ct<|ZT rfl rfl rfl ?_
 rw[px,Em]at f
 exact t _ _ (k+1) Za ⟨rfl,trivial⟩ ⟨hB,d,a,e,(by (rw[ww Om,m,so,if_pos (by simpa using f)];exact b)),Om,trivial⟩ Zo
 refine cu<|ZT rfl rfl rfl ?_
 rw[px,Em]at f
 exact t _ _ (k+1) Za ⟨rfl,trivial⟩ ⟨hB,d,a,e,(by (rw[ww Om,m,so,if_neg (by simpa using f)];exact b)),Om,trivial⟩ Zo
 refine cR<|Zr<|Zv (cy rfl cA rfl b)<|Zy (cz rfl rfl cA rfl a rfl rfl λag u S=> ?_)
 replace hB:=Zg hB u h
 replace b:=At.grownNe b (Ne.symm r) u
 replace a:=S
 refine ct<|Zt<|jr rfl cA a rfl ⟨hB,?_⟩
 obtain rfl:k=(d7 s).length:=by omega
 rw[if_pos hi,Ni]
end
section
open Go Go.RowKit
theorem O1:cX Tryz.prog 62=true:=by kernel_rfl
theorem CA:fj Tryz.prog 43=some (4,1,1):=by kernel_rfl
theorem Hg:eE Tryz.prog 4=true:=by kernel_rfl
theorem qj:dT Tryz.prog 4=some (.bool false):=by kernel_rfl
theorem Oj:cX Tryz.prog 65=true:=by kernel_rfl
theorem SM:cX Tryz.prog 120=true:=by kernel_rfl
theorem IG {f:Nat→Value} {w:World} {d:Option Nat} {ty t2:TypeId} {ps:String} {af:Array Edge} {g:Option (Nat×Bool)} {x y:Operand} {a0 a1 b0 b1:Int} (hx:dg f x= .agg #[.int .u8 a0, .int .u8 a1]) (hy:dg f y= .agg #[.int .u8 b0, .int .u8 b1]):
    (execOp (dg f) ⟨d, .binOp .eql 34 x y t2,ty,ps,af,g⟩).run Tryz.prog w= .ok (.value (.bool (decide ((a0=b0∧a1=b1))))) w:=by
  have hg:Tryz.prog.eqGuardType Tryz.prog.depth 34=false:=by kernel_rfl
  have hp34:Tryz.prog.stoodInHeld 34=false:=by kernel_rfl
  have hu34:Tryz.prog.underlying 34=some (.struct (Tryz.prog.fieldsOf 34)):=by kernel_rfl
  simp only[execOp,hx,hy,Sem.run_bind,run_eqGuard_agg _ _ _ _ _ _ _ hg,Result.andThen_ok,run_eql_struct,run_equalIn_agg _ 9999 34 _ _ hu34 hp34]
  simp only[Program.fieldsOf,Tryz.underlying34]
  simp[Op.eqFields,part,isAgg,run_equalIn_int _ 9998 5 _ _ _ _ Tryz.underlying5,run_underlying Tryz.underlying5]
  by_cases q0:a0=b0<;>by_cases q1:a1=b1<;>simp[q0,q1]
theorem Ut:cX Tryz.prog 66=true:=by kernel_rfl
theorem lc (n:Nat) (w:World) (hn:n≤63):
    Fn Tryz.prog 62 #[.int .i64 (n:Int)] w λv w'=>v= .int .u64 ((2^n:Nat):Int):=by
 refine cH (n:=13) Tryz.func62 rfl rfl rfl λhB=> ?_
 refine Zr<|ZZ rfl<|Zr<|ZZ rfl<|Zq<|Zr<|ZZ rfl<|cx ?_
 refine cS (σ:=(Nat)) [3,11] (λk=>[(4, .int .i64 (k:Int)),(3, .int .u64 ((2^k:Nat):Int))]) (λk W=>(Below w.heap.size w W)∧(k≤n)∧(True)) (λk=>n-k) (0) ⟨rfl,rfl,trivial⟩ ⟨hB,Om,trivial⟩ ?_
 rintro k c W9 ⟨hB,hk,_⟩ d a
 refine Zq<|Zr<|Zi rfl<|Zi rfl<|Zv (dk rfl rfl)<|ct<|ZQ rfl (λb=> ?_) λb=> ?_
 refine cu<|Zq<|cx<|cN<|Zi rfl<|Zv (LD rfl (n:=2) rfl rfl (by exact Yg Om))<|ZZ rfl<|cN<|Zi rfl<|Zv (eP rfl rfl Om Om)<|Zi rfl ?_
 refine ct ?_
 exact a _ _ (k+1) Za ⟨rfl,rfl,trivial⟩ ⟨hB,Om,trivial⟩ Zo
 refine cR<|Zr<|Zi rfl<|ZZ rfl<|Zt<|cV (v:= .int .u64 _) rfl ⟨hB,?_⟩
 obtain rfl:k=n:=by omega
 rfl
theorem qK (p i:Nat) (w:World) (hp:p<9223372036854775808) (hi:i<8):
    Fn Tryz.prog 66 #[.int .i64 (p:Int), .int .i64 (i:Int)] w λv w'=>v= .int .i64 ((p/2^i%2:Nat):Int):=by
 refine cH (n:=11) Tryz.func66 rfl rfl rfl λhB=> ?_
 have h7:=Al hi
 have h0:=aaz i
 refine Zr<|ZZ rfl<|Zr<|Zi rfl<|Zi rfl<|ZC O1 (lc _ _ (by omega)) rfl λc W5 a b=> ?_
 replace hB:=Ze hB a
 obtain rfl:=b
 refine Zv (ic rfl Tryz.underlying38 Tryz.underlying3 oG)<|Zv (vA (n:=(2^i)) rfl rfl rfl Om oG)<|Zv (yF (n:=2) rfl rfl rfl Om)<|ZZ rfl<|Zt<|cV (v:= .int .i64 _) rfl ⟨hB,?_⟩
 rfl
theorem qA (n:Int) (w:World) (h0:0≤n) (h1:n≤8):
    Fn Tryz.prog 19 #[.int .i64 n] w λv w'=>cD Qe 1 4 w' w.heap.size v (l4 (2^n.toNat)):=by
 refine cH (n:=17) Tryz.func19 rfl rfl rfl λhB=> ?_
 obtain⟨n,rfl⟩:=aau h0
 have hn:n≤8:=by omega
 have h8:=YM hn
 refine Zr<|Zw (.slice none 0 0) rfl<|ct<|Zr<|Zy (OV (n:=256) (N:=w.heap.size) rfl rfl CA qj Dd Dd (Below.size hB) λb W5 d c=> ?_)
 replace c:=acA yv false rfl Dd c
 replace hB:=Ze hB d
 rw[DZ]at c
 refine Zw b rfl<|ct<|Zq<|Zr<|ZZ rfl<|cx ?_
 refine cS (σ:=(Nat)) [4,4,6,15] (λk=>[(4, .int .i64 (k:Int))]) (λk W=>(Below w.heap.size w W)∧(cD Qe 1 4 W w.heap.size b (l4 k))∧(k≤2^n)∧(True)) (λk=>2^n-k) (0) ⟨rfl,trivial⟩ ⟨hB,c,(my _),trivial⟩ ?_
 rintro k m o ⟨hB,ho,hk,_⟩ p e
 refine Zq<|Zr<|Zi rfl<|Zv (ic rfl Tryz.underlying3 Tryz.underlying38 oG)<|Zi rfl<|ZC O1 (lc _ _ (by omega)) rfl λq r f g=> ?_
 obtain⟨hB,ho⟩:=f.k2 hB ho
 obtain rfl:=g
 refine Zv (dk rfl rfl)<|ct<|ZQ rfl (λh=> ?_) λh=> ?_
 refine cu<|Zq<|cx<|cN<|Zw b rfl<|Zi rfl<|Zv (df (v:=b) rfl ho.sl rfl CA Om Te)<|Zy (uP (v:=b) (u:= .bool true) (a:=true) (j:=_) rfl rfl (.inl ⟨Hg,rfl⟩) yv rfl rfl ho Om Te λs i l=> ?_)
 replace hB:=ZG hB i ho
 replace ho:=l
 rw[HZ]at ho
 refine ct<|cN<|Zi rfl<|Zv (eP rfl rfl Om Om)<|ZZ rfl ?_
 exact e _ _ (k+1) Za ⟨rfl,trivial⟩ ⟨hB,(by exact ho),Om,trivial⟩ Zo
 refine cR<|Zr<|Zw b rfl<|Zw b rfl<|ct<|Zt<|cV (v:=b) rfl ⟨hB,?_⟩
 obtain rfl:k=2^n:=by omega
 exact ho
theorem j6 (m u:Nat) (w:World) (hm:m<256) (hv:u<256):
    Fn Tryz.prog 65 #[.agg #[.int .u8 (m:Int), .int .u8 (u:Int)]] w λv w'=>cD dJ 1 3 w' w.heap.size v (nP m u):=by
 refine cH (n:=32) Tryz.func65 rfl rfl rfl λhB=> ?_
 refine Zr<|Zy (dt (c:= #[_,_]) rfl rfl λj W3 C l a=> ?_)
 replace hB:=Ze hB l
 refine Zw (.slice none 0 0) rfl<|ct<|Zr<|Zw (.slice none 0 0) rfl<|ct<|Zd dz λo p=> ?_
 obtain⟨hB,a⟩:=p.k2 hB a
 have hS:=dz.refl o
 refine Tf 0 rfl rfl ea hS<|Tk 1 rfl (λ_ hq=>cB (v:= .int .u8 _) rfl dK (At.cell (hq.at a) rfl)) hS<|Tf 2 rfl rfl fE hS<|Tk 3 rfl (λ_ hq=>cB (v:= .int .u8 _) rfl dK (At.cell (hq.at a) rfl)) hS<|Ti 4 rfl rfl hS<|Ti 5 rfl rfl hS<|Td<|Zq<|Zr<|ZZ rfl<|cx ?_
 refine cS (σ:=(Nat)×(Value)) [3,6,11,30] (λ(k,v0)=>[(6, .int .i64 (k:Int)),(4, .int .u8 ((m/2^k:Nat):Int)),(5, .int .u8 ((u/2^k:Nat):Int)),(3,v0)]) (λsg W=>match sg with|(k,v0)=>(Below w.heap.size w W)∧(At W j _ 34)∧(cD dJ 1 3 W w.heap.size v0 (rr m u k))∧(k≤8)∧(True)) (λ(k,v0)=>8-k) ((0, .slice none 0 0)) ⟨rfl,congrArg (λx:Nat=>Value.int .u8 (x:Int)) (Nat.div_one _).symm,congrArg (λx:Nat=>Value.int .u8 (x:Int)) (Nat.div_one _).symm,rfl,trivial⟩ ⟨hB,a,cD.nil,Om,trivial⟩ ?_
 rintro⟨k,v0⟩ D E ⟨hB,a,ho,hk,_⟩ F e
 refine Zq<|Zr<|Zi rfl<|Zv (dk rfl rfl)<|ct<|ZQ rfl (λq=> ?_) λq=> ?_
 refine cu<|Zq<|cx<|Zq ?_
 have hmk:m/2^k<256:=aaw (aaY _ _) hm
 have hvk:u/2^k<256:=aaw (aaY _ _) hv
 refine Zr<|Zi rfl<|Zv (yF (n:=2) rfl rfl rfl Om)<|Zv (dW rfl rfl)<|ct<|ZQ rfl (λr=> ?_) λr=> ?_
 refine cN<|Zw v0 rfl<|Zy (eK (u:= .int .i64 2) rfl cM eQ rfl Dd Dd λs G H t y=> ?_)
 obtain⟨hB,a,ho⟩:=t.k3 hB a ho
 refine Zy (dZ (v:=v0) (v2:= .slice (some ⟨s,0,none⟩) 1 1) rfl rfl cM eQ Dd ho (eT y rfl) rfl (n4 hB) QG QG λf I g b=> ?_)
 replace b:=cD.snoc (enc:=dJ) (x:=_) rfl rfl rfl rfl b
 replace hB:=ZG hB g ho
 replace a:=At.grownOw a ho g Dd
 refine Zw f rfl<|ct<|Zr<|Zi rfl<|Zv (vA (n:=2) rfl rfl rfl Om m5)<|ZZ rfl<|cN<|Zi rfl<|Zv (vA (n:=2) rfl rfl rfl Om m5)<|ZZ rfl ?_
 refine cN<|Zi rfl<|Zv (eP rfl rfl Om Om)<|ZZ rfl ?_
 exact e _ _ ((k+1,f)) Za ⟨rfl,congrArg (λx:Nat=>Value.int .u8 (x:Int)) (xE m k),congrArg (λx:Nat=>Value.int .u8 (x:Int)) (xE u k),rfl,trivial⟩ ⟨hB,a,(by (rw[wu,lit,if_pos Om];exact b)),Om,trivial⟩ (by show 8-(k+1)<8-k;omega)
 refine cN<|Zw v0 rfl<|Zi rfl<|Zv (yF (n:=2) rfl rfl rfl Om)<|Zv (ic rfl Tryz.underlying5 Tryz.underlying3 oG)<|Zy (eK (u:= .int .i64 _) rfl cM eQ rfl Dd Dd λz J K A B=> ?_)
 obtain⟨hB,a,ho⟩:=A.k3 hB a ho
 refine Zy (dZ (v:=v0) (v2:= .slice (some ⟨z,0,none⟩) 1 1) rfl rfl cM eQ Dd ho (eT B rfl) rfl (n4 hB) QG QG λh L i d=> ?_)
 replace d:=cD.snoc (enc:=dJ) (x:=_) rfl rfl rfl rfl d
 replace hB:=ZG hB i ho
 replace a:=At.grownOw a ho i Dd
 refine Zw h rfl<|ct<|Zr<|Zi rfl<|Zv (vA (n:=2) rfl rfl rfl Om m5)<|ZZ rfl<|cN<|Zi rfl<|Zv (vA (n:=2) rfl rfl rfl Om m5)<|ZZ rfl ?_
 refine cN<|Zi rfl<|Zv (eP rfl rfl Om Om)<|ZZ rfl ?_
 exact e _ _ ((k+1,h)) Za ⟨rfl,congrArg (λx:Nat=>Value.int .u8 (x:Int)) (xE m k),congrArg (λx:Nat=>Value.int .u8 (x:Int)) (xE u k),rfl,trivial⟩ ⟨hB,a,(by (rw[wu,lit,if_neg Om];exact d)),Om,trivial⟩ (by show 8-(k+1)<8-k;omega)
 refine cR<|Zr<|Zw v0 rfl<|Zw v0 rfl<|ct<|Zt<|cV (v:=v0) rfl ⟨hB,?_⟩
 obtain rfl:k=8:=by omega
 exact ho
theorem qq (x:Value) (l:List Int) (w:World) (hl:dh dJ 1 w x l) (hL:P4 l):
    Fn Tryz.prog 120 #[x] w λv w'=>v= .agg #[.int .u8 ((jQ l l.length:Nat):Int), .int .u8 ((mv l l.length:Nat):Int)]:=by
 refine cH (n:=36) Tryz.func120 rfl rfl rfl λhB=> ?_
 have h8:=hL.1
 refine Zr<|Zy (cI gV rfl λo W3 p r b=> ?_)
 have s:=ZO p hB
 replace hB:=Ze hB r
 refine ct<|Zr<|Zy (cI gV rfl λt W8 e u a=> ?_)
 have f:=ZO e hB
 have d:=Zn e b.lt
 obtain⟨hB,b⟩:=u.k2 hB b
 refine ct<|Zr<|ZZ rfl<|Zq<|Zr<|ZZ rfl<|cx ?_
 refine cS (σ:=(Nat)) [4,34] (λk=>[(5, .int .i64 (k:Int)),(4, .int .u8 ((2^k%256:Nat):Int))]) (λk W=>(Below w.heap.size w W)∧(At W o _ 34)∧(At W t #[.int .u8 ((jQ l k:Nat):Int), .int .u8 ((mv l k:Nat):Int)] 34)∧(k≤l.length)∧(True)) (λk=>l.length-k) (0) ⟨rfl,rfl,trivial⟩ ⟨hB,b,a,(my _),trivial⟩ ?_
 rintro k E F ⟨hB,b,a,hk,_⟩ G g
 refine Zq<|Zr<|Zi rfl<|Zw x rfl<|Zv (cT (v:=x) rfl (Below.slT hB hl) cM)<|Zv (dk rfl rfl)<|ct<|ZQ rfl (λy=> ?_) λy=> ?_
 refine cu<|Zq<|cx<|Zq ?_
 have h7:=Al (show k<8 by omega)
 rw[abo (show 2^k<256 by omega)]
 have hA:=Bf l k
 have hB2:=Fd l k
 refine Zr<|Zw x rfl<|Zi rfl<|Zv (df (v:=x) rfl (Below.slT hB hl) rfl cM Om (by omega))<|Zv (cB (v:= .int .i64 _) rfl cK (dh.cell (Below.slT hB hl) dI 0 Om (by omega) 0 rfl))<|Zv (dk rfl rfl)<|ct<|ZQ rfl (λc=> ?_) λc=> ?_
 obtain⟨q,hq0,hq1⟩:=hL.get (k:=k) (by omega) c
 refine Zr<|Zf rfl ea<|Zl rfl dK a rfl<|Zi rfl<|Zv (Or rfl (n:=_) rfl rfl oG)<|Zf rfl ea<|Zy (dm (v:= .int .u8 _) rfl rfl dK rfl a gj λH h z=> ?_)
 replace hB:=Zg hB h f
 replace b:=At.grownNe b d h
 replace a:=z
 replace a:At _ _ #[_,_] _:=a
 refine ct ?_
 have hq2:2^k*q≤2^k*1:=Nat.mul_le_mul_left _ hq0
 have hq3:l.getD (k:Int).toNat 0=(q:Int):=hq1
 refine fe dz fQ (λA B=> ?_)
 obtain⟨hB,b,a⟩:=B.k3 hB b a
 have hS:=dz.refl A
 refine Tf 0 rfl rfl fE hS<|Tk 1 rfl (λ_ hq=>cB (v:= .int .u8 _) rfl dK (At.cell (hq.at a) rfl)) hS<|Ti 2 rfl rfl hS<|Tw 3 x rfl rfl hS<|Ti 4 rfl rfl hS<|Tk 5 rfl (λ_ hq=>df (v:=x) rfl (hq.slT (Below.slT hB hl)) rfl cM Om (by omega)) hS<|Tk 6 rfl (λ_ hq=>cB (v:= .int .i64 _) rfl cK (dh.cell (hq.slT (Below.slT hB hl)) dI 0 Om (by omega) 0 rfl)) hS<|Tk 7 rfl (λ_ _=>ic (m:=q) (congrArg (Value.int .i64) hq3) Tryz.underlying3 Tryz.underlying5 oG) hS<|Tk 8 rfl (λ_ _=>LD rfl (n:=q) rfl rfl oG) hS<|Tk 9 rfl (λ_ _=>Or rfl (n:=(2^k*q)) rfl rfl oG) hS<|Tf 10 rfl rfl fE hS<|To 11 rfl (dm (v:= .int .u8 _) rfl rfl dK rfl a gj λI i C=>⟨.inr jW,?_⟩)
 replace hB:=Zg hB i f
 replace b:=At.grownNe b d i
 replace a:=C
 replace a:At _ _ #[_,_] _:=a
 refine Td<|cN<|Zi rfl<|Zv (Jv (n:=2) rfl rfl rfl)<|ZZ rfl<|cN<|Zi rfl<|Zv (eP rfl rfl Om Om)<|ZZ rfl ?_
 exact g _ _ (k+1) Za ⟨rfl,rfl,trivial⟩ ⟨hB,b,(by (rw[(zd (k:=k) hq1 hq0).1,(zd (k:=k) hq1 hq0).2];exact a)),Om,trivial⟩ Zo
 refine cu<|cN<|Zi rfl<|Zv (Jv (n:=2) rfl rfl rfl)<|ZZ rfl<|cN<|Zi rfl<|Zv (eP rfl rfl Om Om)<|ZZ rfl ?_
 exact g _ _ (k+1) Za ⟨rfl,rfl,trivial⟩ ⟨hB,b,(by (rw[(yw (k:=k) c).1,(yw (k:=k) c).2];exact a)),Om,trivial⟩ Zo
 refine cR<|Zr<|Zv (cy rfl cZ rfl a)<|Zy (cz rfl rfl cZ rfl b rfl rfl λJ j D=> ?_)
 replace hB:=Zg hB j s
 replace a:=At.grownNe a (Ne.symm d) j
 replace b:=D
 refine ct<|Zt<|jr rfl cZ b rfl ⟨hB,?_⟩
 obtain rfl:k=l.length:=by omega
 rfl
theorem pQ (m u:Nat) (n:Int) (w:World) (hm:m<256) (hv:u<256):
    Fn Tryz.prog 53 #[.agg #[.int .u8 (m:Int), .int .u8 (u:Int)], .int .i64 n] w λv w'=>v= .bool (dC m u n):=by
 refine cH (n:=29) Tryz.func53 rfl rfl rfl λhB=> ?_
 refine Zr<|Zy (dt (c:= #[_,_]) rfl rfl λg W3 y h b=> ?_)
 replace hB:=Ze hB h
 refine Zb rfl<|ct<|Zq<|Zr<|Zi rfl<|Zv (dk rfl rfl)<|ZX rfl (λj=> ?_) λj=> ?_
 refine Zs<|Zs<|Zb rfl<|ct<|cF rfl<|Zr<|Zb rfl<|ct<|Zt<|cV (v:= .bool false) rfl ⟨hB,?_⟩
 exact congrArg Value.bool (rS Om).symm
 refine Zi rfl<|Zv (il rfl rfl)<|Zb rfl<|ct<|ZQ rfl (λk=> ?_) λk=> ?_
 refine Zr<|Zb rfl<|ct<|Zt<|cV (v:= .bool false) rfl ⟨hB,?_⟩
 exact congrArg Value.bool (rS Om).symm
 refine cu<|Zr<|Zv (cy rfl cZ rfl b)<|ZC (vs:=[.agg #[_,_]]) Oj (j6 _ _ _ m5 m5) rfl λd z l a=> ?_
 have o:=(Below.size hB)
 obtain⟨hB,b⟩:=l.k2 hB b
 replace a:=cD.mono a o
 refine Zw d rfl<|ct<|Zq ?_
 have hn:0≤n∧n≤8:=by omega
 refine Zr<|Zi rfl<|ZZ rfl<|cx ?_
 refine cS (σ:=(Nat)) [4,4,6,6,16,24] (λi=>[(6, .int .i64 (i:Int))]) (λi W=>(Below w.heap.size w W)∧(At W g _ 34)∧(cD dJ 1 3 W w.heap.size d _)∧(n.toNat≤i∧i≤8)∧(∀q,n.toNat≤q→q<i→lit m u q=2)∧(True)) (λi=>8-i) (n.toNat) ⟨congrArg (Value.int .i64) (by omega:n=(n.toNat:Int)),trivial⟩ ⟨hB,b,a,Om,(λq h1 h2=>by omega),trivial⟩ ?_
 rintro i A B ⟨hB,b,a,hi,hw,_⟩ C p
 refine Zq<|Zr<|Zi rfl<|Zv (dk rfl rfl)<|ct<|ZQ rfl (λr=> ?_) λr=> ?_
 refine cu<|Zq<|cx<|Zr<|Zw d rfl<|Zi rfl<|Zv (df (v:=d) rfl a.sl rfl cM Om Te)<|Zv (cB (v:= .int .i64 _) rfl cK (dh.cell a.sl dI 0 Om Te 0 rfl))<|Zv (ep rfl rfl)<|ct<|ZQ rfl (λe=> ?_) λe=> ?_
 refine Zr<|Zb rfl<|ct<|Zt<|cV (v:= .bool false) rfl ⟨hB,?_⟩
 exact congrArg Value.bool (Kr hm Om e).symm
 refine cu<|cN<|Zi rfl<|Zv (eP rfl rfl Om Om)<|ZZ rfl ?_
 exact p _ _ (i+1) Za ⟨rfl,trivial⟩ ⟨hB,b,a,Om,(Gi hw Om (Decidable.not_not.1 e)),trivial⟩ Zo
 refine cR<|Zd dz λs t=> ?_
 obtain⟨hB,b,a⟩:=t.k3 hB b a
 have hS:=dz.refl s
 refine Tw 0 d rfl rfl hS<|Tk 2 rfl (λ_ hq=>cy rfl cZ rfl (hq.at b)) hS<|To 1 rfl (TC (vs:=[d]) SM (qq _ _ _ a.sl (by exact GK _ _)) rfl λD E f x=>⟨.inl (hS.trans f),?_⟩)
 replace hB:=Ze hB f
 replace hS:=hS.trans f
 obtain rfl:=x
 refine Tk 3 rfl (λ_ _=>IG rfl rfl) hS<|Ty 4 rfl rfl hS<|Td<|Zt<|cV (v:= .bool _) rfl ⟨hB,?_⟩
 obtain rfl:i=8:=by omega
 exact congrArg Value.bool (KW hm hv hn hw)
theorem qH (m u p:Nat) (w:World) (hm:m<256) (hv:u<256) (hp:p<256):
    Fn Tryz.prog 21 #[.agg #[.int .u8 (m:Int), .int .u8 (u:Int)], .int .i64 (p:Int)] w λv w'=>v= .bool (mE m u p):=by
 refine cH (n:=28) Tryz.func21 rfl rfl rfl λhB=> ?_
 refine Zr<|Zy (dt (c:= #[_,_]) rfl rfl λi W3 y j b=> ?_)
 replace hB:=Ze hB j
 refine Zb rfl<|ct<|Zr<|Zv (cy rfl cZ rfl b)<|ZC (vs:=[.agg #[_,_]]) Oj (j6 _ _ _ m5 m5) rfl λd W8 l a=> ?_
 have o:=(Below.size hB)
 obtain⟨hB,b⟩:=l.k2 hB b
 replace a:=cD.mono a o
 refine Zw d rfl<|ct<|Zq<|Zr<|ZZ rfl<|cx ?_
 refine cS (σ:=(Nat)) [4,4,6,6,9,27] (λk=>[(6, .int .i64 (k:Int))]) (λk W=>(Below w.heap.size w W)∧(At W i _ 34)∧(cD dJ 1 3 W w.heap.size d _)∧(k≤8)∧(∀q,q<k→lit m u q=2∨lit m u q=((p/2^q%2:Nat):Int))∧(True)) (λk=>8-k) (0) ⟨rfl,trivial⟩ ⟨hB,b,a,Om,ef,trivial⟩ ?_
 rintro k z A ⟨hB,b,a,hk,hw,_⟩ B h
 refine Zq<|Zr<|Zi rfl<|Zv (dk rfl rfl)<|ct<|ZQ rfl (λr=> ?_) λr=> ?_
 refine cu<|Zq<|cx<|Zd dz λs t=> ?_
 obtain⟨hB,b,a⟩:=t.k3 hB b a
 have hS:=dz.refl s
 refine Tw 0 d rfl rfl hS<|Ti 1 rfl rfl hS<|Tk 2 rfl (λ_ hq=>df (v:=d) rfl ((hq.ow a)).sl rfl cM Om Te) hS<|Tk 3 rfl (λ_ hq=>cB (v:= .int .i64 _) rfl cK (dh.cell ((hq.ow a)).sl dI 0 Om Te 0 rfl)) hS<|Tk 4 rfl (λ_ _=>ep rfl rfl) hS<|Tx 5 rfl (λ_ _=>jL (v:= .bool _) rfl) hS (λe=> ?_) λe=> ?_
 refine Tw 6 d rfl rfl hS<|Ti 7 rfl rfl hS<|Tk 8 rfl (λ_ hq=>df (v:=d) rfl ((hq.ow a)).sl rfl cM Om Te) hS<|Tk 9 rfl (λ_ hq=>cB (v:= .int .i64 _) rfl cK (dh.cell ((hq.ow a)).sl dI 0 Om Te 0 rfl)) hS<|Ti 10 rfl rfl hS<|Ti 11 rfl rfl hS<|To 12 rfl (TC Ut (qK _ _ _ (by omega) (by omega)) rfl λC D f x=>⟨.inl (hS.trans f),?_⟩)
 obtain⟨hB,b,a⟩:=f.k3 hB b a
 replace hS:=hS.trans f
 obtain rfl:=x
 refine Tk 13 rfl (λ_ _=>ep rfl rfl) hS<|Ty 14 rfl rfl hS<|Td<|ZQ rfl (λg=> ?_) λg=> ?_
 refine Zr<|Zb rfl<|ct<|Zt<|cV (v:= .bool false) rfl ⟨hB,?_⟩
 exact congrArg Value.bool (So hm Om e g).symm
 refine cu<|cN<|Zi rfl<|Zv (eP rfl rfl Om Om)<|ZZ rfl ?_
 exact h _ _ (k+1) Za ⟨rfl,trivial⟩ ⟨hB,b,a,Om,(dG hw (FX Om (by exact .inr g))),trivial⟩ Zo
 refine Tp 6 rfl hS<|Tp 7 rfl hS<|Tp 8 rfl hS<|Tp 9 rfl hS<|Tp 10 rfl hS<|Tp 11 rfl hS<|Tp 12 rfl hS<|Tp 13 rfl hS<|Ty 14 rfl rfl hS<|Td<|dA rfl<|cu<|cN ?_
 refine Zi rfl<|Zv (eP rfl rfl Om Om)<|ZZ rfl ?_
 exact h _ _ (k+1) Za ⟨rfl,trivial⟩ ⟨hB,b,a,Om,(dG hw (FX Om (by exact .inl e))),trivial⟩ Zo
 refine cR<|Zr<|Zb rfl<|ct<|Zt<|cV (v:= .bool true) rfl ⟨hB,?_⟩
 obtain rfl:k=8:=by omega
 exact congrArg Value.bool (QE hm hw)
end
section
open Go Go.RowKit
theorem C3:cX Tryz.prog 60=true:=by kernel_rfl
theorem nQ {f:Nat→Value} {w:World} {d:Option Nat} {ty:TypeId} {ps:String} {af:Array Edge} {g:Option (Nat×Bool)} {x0 x1:Operand} {c0_0 c1_0:Value} (h0:dg f x0=c0_0) (k0:c0_0.cells= #[c0_0]) (h1:dg f x1=c1_0) (k1:c1_0.cells= #[c1_0]):
    (execOp (dg f) ⟨d, .build 34 #[(0,x0),(1,x1)],ty,ps,af,g⟩).run Tryz.prog w= .ok (.value (.agg #[c0_0,c1_0])) w:=by
  obtain⟨i0,hi0,hz0⟩:=Do.1 (show (Tryz.prog.info? 34).bind (·.zero)=_ from gV)
  obtain⟨j5,hj5,hs5⟩:=go.1 o4
  simp[execOp,h0,k0,h1,k1,Instr.build,zeroValue,typeInfo,sizeOf,hi0,hz0,run_underlying Tryz.underlying34,Instr.fill,dX,hj5,hs5]
theorem Dn:cX Tryz.prog 237=true:=by kernel_rfl
theorem na (m u:Nat) (n:Int) (w:World) (hm:m<256) (hv:u<256):
    Fn Tryz.prog 60 #[.agg #[.int .u8 (m:Int), .int .u8 (u:Int)], .int .i64 n] w λv w'=>v= .bool (dC m u n):=by
 refine cH (n:=27) Tryz.func60 rfl rfl rfl λhB=> ?_
 refine Zr<|Zy (dt (c:= #[_,_]) rfl rfl λh W3 i f a=> ?_)
 replace hB:=Ze hB f
 refine Zb rfl<|ct ?_
 have h8:n≤8→2^n.toNat≤256:=fq
 refine Zd dz λW8 g=> ?_
 obtain⟨hB,a⟩:=g.k2 hB a
 have hS:=dz.refl W8
 refine Ti 0 rfl rfl hS<|Tk 1 rfl (λ_ _=>mT rfl rfl) hS<|Tx 2 rfl (λ_ _=>jL (v:= .bool _) rfl) hS (λd=> ?_) λd=> ?_
 refine Ti 3 rfl rfl hS<|Tk 4 rfl (λ_ _=>Bd rfl rfl) hS<|Ty 5 rfl rfl hS<|Tx 6 rfl (λ_ _=>jL (v:= .bool _) rfl) hS (λe=> ?_) λe=> ?_
 refine Tf 7 rfl rfl ea hS<|Tk 8 rfl (λ_ hq=>cB (v:= .int .u8 _) rfl dK (At.cell (hq.at a) rfl)) hS<|Tk 9 rfl (λ_ _=>ic rfl Tryz.underlying5 Tryz.underlying3 oG) hS<|Ti 10 rfl rfl hS<|Tk 11 rfl (λ_ _=>jA (m:=1) rfl rfl Om (by simp only[IntKind.bits];omega) (by rw[aap];have:=h8 Om;simp only[ip];omega)) hS<|Tk 12 rfl (λ_ _=>dk rfl rfl) hS<|Ty 13 rfl rfl hS<|Tx 14 rfl (λ_ _=>jL (v:= .bool _) rfl) hS (λb=> ?_) λb=> ?_
 refine Tf 15 rfl rfl fE hS<|Tk 16 rfl (λ_ hq=>cB (v:= .int .u8 _) rfl dK (At.cell (hq.at a) rfl)) hS<|Tf 17 rfl rfl ea hS<|Tk 18 rfl (λ_ hq=>cB (v:= .int .u8 _) rfl dK (At.cell (hq.at a) rfl)) hS<|Tk 19 rfl (λ_ _=>qB (n:=_) rfl rfl rfl m5 m5) hS<|Tk 20 rfl (λ_ _=>dW rfl rfl) hS<|Ty 21 rfl rfl hS<|Ty 22 rfl rfl hS<|Td<|Zt<|cV (v:= .bool _) rfl ⟨hB,?_⟩
 exact congrArg Value.bool (Pj d e b)
 refine Tp 15 rfl hS<|Tp 16 rfl hS<|Tp 17 rfl hS<|Tp 18 rfl hS<|Tp 19 rfl hS<|Tp 20 rfl hS<|Ty 21 rfl rfl hS<|Ty 22 rfl rfl hS<|Td<|Zt<|cV (v:= .bool false) rfl ⟨hB,?_⟩
 exact congrArg Value.bool (LF b)
 refine Tp 7 rfl hS<|Tp 8 rfl hS<|Tp 9 rfl hS<|Tp 10 rfl hS<|Tp 11 rfl hS<|Tp 12 rfl hS<|Ty 13 rfl rfl hS<|Ty 14 rfl rfl hS<|Tp 15 rfl hS<|Tp 16 rfl hS<|Tp 17 rfl hS<|Tp 18 rfl hS<|Tp 19 rfl hS<|Tp 20 rfl hS ?_
 refine Ty 21 rfl rfl hS<|Ty 22 rfl rfl hS<|Td<|Zt<|cV (v:= .bool false) rfl ⟨hB,?_⟩
 exact congrArg Value.bool (rS (by omega)).symm
 refine Tp 3 rfl hS<|Tp 4 rfl hS<|Ty 5 rfl rfl hS<|Ty 6 rfl rfl hS<|Tp 7 rfl hS<|Tp 8 rfl hS<|Tp 9 rfl hS<|Tp 10 rfl hS<|Tp 11 rfl hS<|Tp 12 rfl hS<|Ty 13 rfl rfl hS<|Ty 14 rfl rfl hS<|Tp 15 rfl hS<|Tp 16 rfl hS ?_
 refine Tp 17 rfl hS<|Tp 18 rfl hS<|Tp 19 rfl hS<|Tp 20 rfl hS<|Ty 21 rfl rfl hS<|Ty 22 rfl rfl hS<|Td<|Zt<|cV (v:= .bool false) rfl ⟨hB,?_⟩
 exact congrArg Value.bool (rS (by omega)).symm
theorem ju (m u:Nat) (n:Int) (w:World) (hm:m<256) (hv:u<256):
    Fn Tryz.prog 18 #[.agg #[.int .u8 (m:Int), .int .u8 (u:Int)], .int .i64 n] w λv w'=>v=if dC m u n=true then .tuple #[eb (oH m u n.toNat), .int .i64 0]else .tuple #[eb 0, .int .i64 1]:=by
 refine cH (n:=31) Tryz.func18 rfl rfl rfl λhB=> ?_
 refine Zr<|Zy (dt (c:= #[_,_]) rfl rfl λr W3 K s b=> ?_)
 replace hB:=Ze hB s
 refine Zy (cI ee rfl λh W6 t x a=> ?_)
 have i:=ZO t hB
 obtain⟨hB,b⟩:=x.k2 hB b
 replace a:At W6 h #[wv 0 0,wv 0 1,wv 0 2,wv 0 3] 40:=a
 refine ZZ rfl<|Zq<|Zr<|Zv (cy rfl cZ rfl b)<|Zi rfl<|ZC (vs:=[.agg #[_,_], .int .i64 _]) C3 (na _ _ _ _ m5 m5) rfl λL M y z=> ?_
 obtain⟨hB,b,a⟩:=y.k3 hB b a
 obtain rfl:=z
 refine Zv (eR rfl)<|ct<|ZQ rfl (λe=> ?_) λe=> ?_
 refine Zr<|Zv (v:=eb 0) (gg)<|Zy (cz rfl rfl cA rfl a rfl rfl λN A B=> ?_)
 replace hB:=Zg hB A i
 replace a:=B
 refine ZZ rfl<|Zt<|eI rfl cA a rfl (v1:= .int .i64 1) rfl ⟨hB,?_⟩
 rw[if_neg (by simpa using e)]
 refine cu ?_
 have hr:dC m u n=true:=by simpa using e
 obtain⟨hn0,hn8,hmn,hvm⟩:=dw.1 hr
 have hp:=fq hn8
 refine Zr<|Zy (cI ee rfl λj C l D d=> ?_)
 have E:=ZO l hB
 have o:=Zn l a.lt
 obtain⟨hB,b,a⟩:=D.k3 hB b a
 replace d:At C j #[wv 0 0,wv 0 1,wv 0 2,wv 0 3] 40:=d
 refine ct<|Zq<|Zr<|Zi rfl<|Zv (jA (m:=1) rfl rfl Om (by simp only[IntKind.bits];omega) Wb)<|ZZ rfl<|cx ?_
 refine cS (σ:=(Nat)) [7,7,15,29] (λk=>[(15, .int .i64 (k:Int))]) (λk W=>(Below w.heap.size w W)∧(At W r _ 34)∧(At W h _ 40)∧(At W j #[wv (ou m u k) 0,wv (ou m u k) 1,wv (ou m u k) 2,wv (ou m u k) 3] 40)∧(k≤2^n.toNat)∧(True)) (λk=>2^n.toNat-k) (0) ⟨rfl,trivial⟩ ⟨hB,b,a,d,(my _),trivial⟩ ?_
 rintro k O P ⟨hB,b,a,d,hk,_⟩ Q p
 refine Zr<|Zv (dk rfl rfl)<|ct<|Zq<|ZQ rfl (λF=> ?_) λF=> ?_
 refine cu<|Zq<|cx<|Zr<|Zi rfl<|ZZ rfl<|Zr<|Zi rfl<|Zv (ic rfl Tryz.underlying3 Tryz.underlying5 oG)<|Zf rfl ea<|Zl rfl dK b rfl<|Zv (mZ (n:=_) rfl rfl rfl tk m5) ?_
 refine Zf rfl fE<|Zl rfl dK b rfl<|Zv (dW rfl rfl)<|ct<|ZQ rfl (λf=> ?_) λf=> ?_
 refine cN<|Zv (cy rfl cA rfl d)<|Zi rfl<|ZC (vs:=[.agg #[_,_,_,_], .int .i64 _]) yj (nU _ _ _) rfl λR S G H=> ?_
 obtain⟨hB,b,a,d⟩:=G.k4 hB b a d
 obtain rfl:=H
 refine Zy (cz rfl rfl cA rfl d rfl rfl λT g I=> ?_)
 replace hB:=Zg hB g E
 replace b:=At.grownAt b d g Dd
 replace a:=At.grownNe a o g
 replace d:=I
 refine ct<|ZT rfl rfl rfl ?_
 exact p _ _ (k+1) Za ⟨rfl,trivial⟩ ⟨hB,b,a,(by (rw[Su f];exact d)),PX,trivial⟩ PX
 refine cu<|ZT rfl rfl rfl ?_
 exact p _ _ (k+1) Za ⟨rfl,trivial⟩ ⟨hB,b,a,(by (rw[QX f];exact d)),PX,trivial⟩ PX
 refine cR<|Zr<|Zv (cy rfl cA rfl d)<|Zy (cz rfl rfl cA rfl a rfl rfl λU q J=> ?_)
 replace hB:=Zg hB q i
 replace d:=At.grownNe d (Ne.symm o) q
 replace a:=J
 refine ZZ rfl<|Zt<|eI rfl cA a rfl (v1:= .int .i64 0) rfl ⟨hB,?_⟩
 have hk2:k=2^n.toNat:=by simp only[aap]at*;omega
 subst hk2
 rw[if_pos hr];rfl
theorem pP (m u:Nat) (w:World) (hm:m<256) (hv:u<256):
    Fn Tryz.prog 237 #[.agg #[.int .u8 (m:Int), .int .u8 (u:Int)]] w λv w'=>v= .agg #[.int .u8 (m:Int), .int .u8 ((u &&& m:Nat):Int)]:=by
 refine cH (n:=11) Tryz.func237 rfl rfl rfl λhB=> ?_
 refine Zr<|Zy (dt (c:= #[_,_]) rfl rfl λj W3 k d a=> ?_)
 replace hB:=Ze hB d
 refine Zy (cI gV rfl λl W6 e f b=> ?_)
 have g:=ZO e hB
 obtain⟨hB,a⟩:=f.k2 hB a
 refine ct<|Zr<|Zf rfl ea<|Zl rfl dK a rfl<|Zf rfl fE<|Zl rfl dK a rfl<|Zf rfl ea<|Zl rfl dK a rfl<|Zv (mZ (n:=_) rfl rfl rfl m5 m5)<|Zv (nQ (h0:=rfl) (k0:=rfl) (h1:=rfl) (k1:=rfl) (c0_0:= .int .u8 _) (c1_0:= .int .u8 _))<|Zy (cz rfl rfl cZ rfl b rfl rfl λo h i=> ?_)
 replace hB:=Zg hB h g
 replace b:=i
 refine ct<|Zt<|jr rfl cZ b rfl ⟨hB,?_⟩
 rfl
theorem lB (m u:Nat) (i:Int) (w:World) (hm:m<256) (hv:u<256):
    Fn Tryz.prog 198 #[.agg #[.int .u8 (m:Int), .int .u8 (u:Int)], .int .i64 i] w λv w'=>v=YB m u i:=by
 refine cH (n:=19) Tryz.func198 rfl rfl rfl λhB=> ?_
 refine Zr<|Zy (dt (c:= #[_,_]) rfl rfl λH W3 j k b=> ?_)
 have l:=ZO j hB
 replace hB:=Ze hB k
 refine Zy (cI gV rfl λI W6 f o a=> ?_)
 have e:=ZO f hB
 have p:=Zn f b.lt
 obtain⟨hB,b⟩:=o.k2 hB b
 refine ct<|Zq<|Zr<|Zi rfl<|Zv (mT rfl rfl)<|ZX rfl (λq=> ?_) λq=> ?_
 refine Zi rfl<|Zv (dk rfl rfl)<|Zb rfl<|ct<|ZQ rfl (λr=> ?_) λr=> ?_
 have h7:=Al (show i.toNat<8 by omega)
 have hle:=rX m (1*2^i.toNat)
 refine fe dz fQ (λs t=> ?_)
 obtain⟨hB,b,a⟩:=t.k3 hB b a
 have hS:=dz.refl s
 refine Tf 0 rfl rfl ea hS<|Tk 1 rfl (λ_ hq=>cB (v:= .int .u8 _) rfl dK (At.cell (hq.at b) rfl)) hS<|Ti 2 rfl rfl hS<|Tk 3 rfl (λ_ _=>jA (m:=1) rfl rfl Om (by simp only[IntKind.bits];omega) Wb) hS<|Tk 4 rfl (λ_ _=>qB (n:=_) rfl rfl rfl m5 Wb) hS<|Tf 5 rfl rfl ea hS<|To 6 rfl (dm (v:= .int .u8 _) rfl rfl dK rfl b gj λJ g x=>⟨.inr jW,?_⟩)
 replace hB:=Zg hB g l
 replace a:=At.grownNe a (Ne.symm p) g
 replace b:=x
 replace b:At _ _ #[_,_] _:=b
 refine Td<|Zr<|Zv (cy rfl cZ rfl b)<|ZC (vs:=[.agg #[_,_]]) Dn (pP _ _ _ (by omega) (by omega)) rfl λh K y d=> ?_
 obtain⟨hB,a⟩:=y.k2 hB a
 obtain rfl:=d
 refine Zy (cz rfl rfl cZ rfl a rfl rfl λL z A=> ?_)
 replace hB:=Zg hB z e
 replace a:=A
 refine ct<|Zt<|jr rfl cZ a rfl ⟨hB,?_⟩
 (rw[YB,lI,if_pos (by omega)];simp only[aap])
 refine cu<|Zr<|Zv (cy rfl cZ rfl b)<|ZC (vs:=[.agg #[_,_]]) Dn (pP _ _ _ (by omega) (by omega)) rfl λh M B d=> ?_
 obtain⟨hB,a⟩:=B.k2 hB a
 obtain rfl:=d
 refine Zy (cz rfl rfl cZ rfl a rfl rfl λN C D=> ?_)
 replace hB:=Zg hB C e
 replace a:=D
 refine ct<|Zt<|jr rfl cZ a rfl ⟨hB,?_⟩
 (rw[YB,lI,if_neg (by omega)])
 refine Zs<|Zs<|Zb rfl<|ct<|dA rfl<|cu<|Zr<|Zv (cy rfl cZ rfl b)<|ZC (vs:=[.agg #[_,_]]) Dn (pP _ _ _ (by omega) (by omega)) rfl λh O E d=> ?_
 obtain⟨hB,a⟩:=E.k2 hB a
 obtain rfl:=d
 refine Zy (cz rfl rfl cZ rfl a rfl rfl λP F G=> ?_)
 replace hB:=Zg hB F e
 replace a:=G
 refine ct<|Zt<|jr rfl cZ a rfl ⟨hB,?_⟩
 (rw[YB,lI,if_neg (by omega)])
end
end Go.Proofs.YtedeonkjellcpaaGreatDoor
