/- The library's functions that this program calls, in the form of our own walks: each out of the kit's contract. Short forms of the laws of walking: what a step asks for of itself is checked by itself (no condition). The walks of package pla: its texts. The walks of package set. The walks of the docum -/
import Derived.Test.YtedeonkjellcpaaGreatDoorShelf
import Derived.Test.YtedeonkjellcpaaGreatDoorProg
import Derived.Test.YtedeonkjellcpaaGreatDoorLift2
namespace Go.Proofs.YtedeonkjellcpaaGreatDoor
set_option linter.unusedVariables false
set_option linter.unusedSimpArgs false
section
open Go Go.RowKit
structure Gl (w:World):Prop where
 bal:ZY 0 w
 esy:∃te pe,w.cell? ⟨4,0,none⟩=some (.iface te pe)
 era:∃te pe,w.cell? ⟨5,0,none⟩=some (.iface te pe)
 pow:Lib.TabIs Tryz.prog w "internal/strconv.uint64pow10" .u64 Lib.pow10Tab
theorem zD {w W:World} {a:Addr} {v:Value} (h:Go.RowKit.Below w.heap.size w W) (k:w.cell? a=some v):W.cell? a=some v:=by
 rw[World.cell?_of_block (h.block a.block (World.block_lt_of_cell? _ _ k))];exact k
theorem KL {w W:World} {n:String} {k:IntKind} {zs:List Int} (h:Go.RowKit.Below w.heap.size w W) (q:Lib.TabIs Tryz.prog w n k zs):Lib.TabIs Tryz.prog W n k zs:=by
 unfold Lib.TabIs World.var? at*
 cases hg:Tryz.prog.globalNamed n with
 |none=>rw[hg]at q;cases q
 |some g=>
  rw[hg]at q
  simp only[Option.bind_some]at q ⊢
  have hlt:g<w.heap.size:=by
   rcases abO g w.heap.size with h1|h1
   ·exact h1
   ·rw[Array.getElem?_eq_none h1]at q;cases q
  rw[h.block g hlt]
  exact q
theorem Gl.below {w W:World} (h:Go.RowKit.Below w.heap.size w W) (k:Gl w):Gl W:=by
 obtain⟨h1,⟨a,b,h2⟩,⟨c,d,h3⟩,h4⟩:=k
 exact⟨h1.below h,⟨a,b,zD h h2⟩,⟨c,d,zD h h3⟩,KL h h4⟩
theorem dC.bytesWorld (w:World) (e:TypeId) (s:ByteArray):dC w (Lib.bytesWorld w e s):=by
 have h1:dC w (w.drew.alloc (.cells (Lib.bytesCells w e s) e)):=(adj w _).trans (dC.alloc _ _)
 unfold Lib.bytesWorld World.freeze
 split
 ·exact h1
 ·have a1:_=w.os:=Below.os h1
  have a2:_=w.tape:=Below.tape h1
  have a3:_=w.output:=Below.output h1
  refine⟨a1,a2,a3,?_,λk hk=> ?_⟩
  ·have:=dC.size h1
   simp only[Array.size_modify]
   exact this
  ·rw[←Below.block h1 k hk]
   show (Array.modify _ w.heap.size _)[k]? =_
   rw[Array.getElem?_modify,if_neg (by omega)]
theorem adu (w:World) (os:Array Obj):dC w (Go.Sort.grow w os):=by
 refine⟨rfl,rfl,rfl,?_,λk hk=> ?_⟩
 ·unfold Go.Sort.grow;simp
 ·unfold Go.Sort.grow
  show (w.heap++os)[k]? =_
  rw[Array.getElem?_append_left hk]
theorem m4 (s p:List UInt8) (w:World):Fn Tryz.prog 125 #[dY s,dY p] w λv w'=>v= .tuple #[dY (Lib.trimPrefix s p), .bool (Lib.hasPrefix s p)]:=
 FR (Tryz.strings_CutPrefix ⟨s.toArray⟩ ⟨p.toArray⟩ w)
theorem AU (s p:List UInt8) (w:World) (hg:Gl w) (hs:s.length<4294967281):Fn Tryz.prog 91 #[dY s,dY p] w λv w'=>v= .tuple #[dY (Lib.cut s p).1,dY (Lib.cut s p).2.1, .bool (Lib.cut s p).2.2]:=by
 obtain⟨m,hm⟩:=hg.bal
 exact⟨Calls.mono (Tryz.strings_Cut ⟨s.toArray⟩ ⟨p.toArray⟩ m w hs hm) λe w' ⟨h1,n,h2⟩=>⟨_,h1,by rw[h2];exact dC.drewN w n,rfl⟩⟩
theorem xD (s:List UInt8) (w:World) (hg:Gl w) (hs:s.length<4294967281):Fn Tryz.prog 58 #[dY s,dY [10]] w λv w'=>cH xC 1 9 w' w.heap.size v (cN s):=by
 obtain⟨m,hm⟩:=hg.bal
 refine⟨Calls.mono (Tryz.strings_Split ⟨s.toArray⟩ ⟨#[10]⟩ m w hs hm (by decide)) λe w' ⟨h1,h2⟩=>⟨_,h1,by rw[h2];exact dC.alloc w _,?_⟩⟩
 have hc:Lib.countB ⟨s.toArray⟩ ⟨#[10]⟩=s.count 10:=Lib.count_one 10 s
 have hd:=Lib.splitB_data ⟨#[10]⟩ 0 (s.count 10) ⟨s.toArray⟩
 rw[show (⟨s.toArray⟩:ByteArray).data.toList=s from rfl,show (⟨#[10]⟩:ByteArray).data.toList=[10] from rfl,vw]at hd
 have hl:=Lib.splitB_all ⟨#[10]⟩ (by decide) 0 (s.count 10) ⟨s.toArray⟩ hc
 have hl2:(cN s).length=s.count 10+1:=by rw[←hd,aby,hl]
 have hcs:((Lib.splitB ⟨#[10]⟩ 0 (s.count 10) ⟨s.toArray⟩).map Value.string)=(cN s).flatMap xC:=by
  rw[←hd,List.flatMap_map]
  induction Lib.splitB ⟨#[10]⟩ 0 (s.count 10) ⟨s.toArray⟩with
  |nil=>rfl
  |cons a l ih=>rw[ab8,abv,ih];exact congrArg (·::_) (Ac a)
 rw[hc]at h2 ⊢
 rw[h2,hcs,←hl2]
 have hle:(cN s).length≤maxLen:=by
  rw[hl2]
  have:=List.count_le_length (a:=(10:UInt8)) (l:=s)
  unfold maxLen
  omega
 exact xM (heap_alloc_new w _) (am _) iN hle
theorem Aa (s:List UInt8) (w:World) (hg:Gl w) (hs:s.length≤281474976710656):Fn Tryz.prog 164 #[dY s] w λv w'=>(∃n:Int,Lib.atoiAll s= .ok n∧v= .tuple #[.int .i64 n, .nilIface])∨((∀n,Lib.atoiAll s≠ .ok n)∧∃(n:Int) (p:Value),v= .tuple #[.int .i64 n, .iface 310 p]):=by
 obtain⟨_,⟨t1,p1,h1⟩,⟨t2,p2,h2⟩,_⟩:=hg
 cases h:Lib.atoiAll s
 case ok n=>exact⟨Calls.mono (Tryz.strconv_Atoi_ok ⟨s.toArray⟩ (show s.length≤_ by omega) n h w) λe w' ⟨e1,e2⟩=>⟨_,e1,by rcases e2 with rfl|⟨t,rfl⟩<;>first|exact dC.refl _|exact dC.bytesWorld _ _ _, .inl ⟨n,rfl,rfl⟩⟩⟩
 case range=>exact⟨Calls.mono (Tryz.strconv_Atoi_range ⟨s.toArray⟩ hs h _ w h2 (.inr ⟨_,_,rfl⟩)) λe w' ⟨b,e1,_,_,e2⟩=>⟨_,e1,e2, .inr ⟨λn e=>(by cases e),_,_,rfl⟩⟩⟩
 all_goals exact⟨Calls.mono (Tryz.strconv_Atoi_syntax ⟨s.toArray⟩ hs h _ w h1 (.inr ⟨_,_,rfl⟩)) λe w' ⟨b,e1,_,_,e2⟩=>⟨_,e1,e2, .inr ⟨λn e=>(by cases e),_,_,rfl⟩⟩⟩
theorem jj (n:Int) (w:World) (hg:Gl w) (h0: -9223372036854775808≤n) (h1:n≤9223372036854775807):Fn Tryz.prog 55 #[.int .i64 n] w λv w'=>v=dY (Lib.itoa n):=
 ⟨Calls.mono (Tryz.strconv_Itoa n h0 h1 w hg.pow) λe w' ⟨e1,k,os,e2⟩=>⟨_,e1,by rw[e2];exact(dC.drewN w k).trans (adu _ _),rfl⟩⟩
end
section
open Go Go.RowKit
class RQ (b:Bool) (p:outParam Prop):Prop where
 t:b=true→p
 f:b=false→¬p
instance (priority:=low) tst_0 (b:Bool):RQ b (b=true):=⟨id,λh=>by simp[h]⟩
instance tst_1 (p:Prop) [Decidable p]:RQ (decide p) p:=⟨of_decide_eq_true,of_decide_eq_false⟩
class SD (b:Bool) (p:outParam Prop):Prop where
 f:b=false→p
instance (priority:=low) tsf_0 (b:Bool):SD b (b=false):=⟨id⟩
instance tsf_1 (p:Prop) [Decidable p]:SD (decide p) (¬p):=⟨of_decide_eq_false⟩
theorem Om {p:Prop} (h:p:=by omega):p:=h
theorem Dd {p:Prop} (h:p:=by decide):p:=h
theorem Za {p:Prop} (h:p:=by repeat (first|exact dD.mask _ _ _|exact dD.refl _ _|refine acx ?_ rfl _|refine aco ?_ _ rfl|refine acg rfl ?_)):p:=h
theorem Zo {p:Prop} (h:p:=by first|omega|(dsimp only;omega)):p:=h
def vQ (ops:Array Oper) (f:Nat→Value) (o:Oper) (n:Nat):Bool:=gf ops f o&&jU n o.dst
def ZV (ops:Array Oper) (f:Nat→Value) (o:Oper) (n:Nat):Bool:= !gf ops f o&&jU n o.dst
theorem w7 {ops:Array Oper} {f:Nat→Value} {o:Oper} {n:Nat} (h:vQ ops f o n=true):gf ops f o=true:=(acm.1 h).1
theorem xg {ops:Array Oper} {f:Nat→Value} {o:Oper} {n:Nat} (h:vQ ops f o n=true):jU n o.dst=true:=(acm.1 h).2
theorem TA {ops:Array Oper} {f:Nat→Value} {o:Oper} {n:Nat} (h:ZV ops f o n=true):gf ops f o=false:=by simpa using (acm.1 h).1
theorem TD {ops:Array Oper} {f:Nat→Value} {o:Oper} {n:Nat} (h:ZV ops f o n=true):jU n o.dst=true:=(acm.1 h).2
def Ky (f:Nat→Value):Op→Option Value
 | .move x=>some (dk f x)
 | .assign x=>some (dk f x)
 | .pick c x y=>match dk f c with
  | .bool true=>some (dk f x)
  | .bool false=>some (dk f y)
  |_=>none
 |_=>none
section
variable {P:Program} {n:Nat} {ops:Array Oper} {Q:(Nat→Value)→World→Prop} {f:Nat→Value} {w:World} {rest:List Oper} {d:Option Nat} {op:Op} {ty:TypeId} {ps:String} {af:Array Edge} {g:Option (Nat×Bool)}
theorem m9 {v:Value} (h:Ky f op=some v):(execOp (dk f) ⟨d,op,ty,ps,af,g⟩).run P w= .ok (.value v) w:=by
 unfold Ky at h
 split at h
 ·obtain rfl:=aaY h;exact jY rfl
 ·obtain rfl:=aaY h;exact Fp rfl
 ·split at h
  ·obtain rfl:=aaY h;rename_i e;exact Pe e rfl
  ·obtain rfl:=aaY h;rename_i e;exact Nn e rfl
  ·cases h
 ·cases h
theorem Zv {v:Value} {w':World} (hr:(execOp (dk f) ⟨d,op,ty,ps,af,g⟩).run P w= .ok (.value v) w') (h:WL P n ops Q rest (updo f d v) w') (hk:vQ ops f ⟨d,op,ty,ps,af,g⟩ n=true:=by exact rfl):
  WL P n ops Q (⟨d,op,ty,ps,af,g⟩::rest) f w:=GL (w7 hk) rfl (xg hk) hr h
theorem Zw (v:Value) (hv:Ky f op=some v) (h:WL P n ops Q rest (updo f d v) w) (hk:vQ ops f ⟨d,op,ty,ps,af,g⟩ n=true:=by exact rfl):
  WL P n ops Q (⟨d,op,ty,ps,af,g⟩::rest) f w:=Zv (m9 hv) h hk
theorem Zi {k:IntKind} {z:Int} (hv:Ky f op=some (.int k z)) (h:WL P n ops Q rest (updo f d (.int k z)) w) (hk:vQ ops f ⟨d,op,ty,ps,af,g⟩ n=true:=by exact rfl):
  WL P n ops Q (⟨d,op,ty,ps,af,g⟩::rest) f w:=Zv (m9 hv) h hk
theorem Zb {b:Bool} (hv:Ky f op=some (.bool b)) (h:WL P n ops Q rest (updo f d (.bool b)) w) (hk:vQ ops f ⟨d,op,ty,ps,af,g⟩ n=true:=by exact rfl):
  WL P n ops Q (⟨d,op,ty,ps,af,g⟩::rest) f w:=Zv (m9 hv) h hk
theorem Zp {b o:Nat} (hv:Ky f op=some (.pointer (some ⟨b,o,none⟩))) (h:WL P n ops Q rest (updo f d (.pointer (some ⟨b,o,none⟩))) w) (hk:vQ ops f ⟨d,op,ty,ps,af,g⟩ n=true:=by exact rfl):
  WL P n ops Q (⟨d,op,ty,ps,af,g⟩::rest) f w:=Zv (m9 hv) h hk
theorem Zf {x:Operand} {t:TypeId} {k q b o:Nat} (hx:dk f x= .pointer (some ⟨b,o,none⟩)) (hT:d5 P t k=some q) (h:WL P n ops Q rest (updo f d (.pointer (some ⟨b,o+q,none⟩))) w)
  (hk:vQ ops f ⟨d, .fieldAddr t x k,ty,ps,af,g⟩ n=true:=by exact rfl):WL P n ops Q (⟨d, .fieldAddr t x k,ty,ps,af,g⟩::rest) f w:=Zv (si hx hT) h hk
theorem Zc {x:Operand} {a:Addr} (hx:dk f x= .pointer (some a)) (h:WL P n ops Q rest (updo f d (.pointer (some a))) w)
  (hk:vQ ops f ⟨d, .nilCheck x,ty,ps,af,g⟩ n=true:=by exact rfl):WL P n ops Q (⟨d, .nilCheck x,ty,ps,af,g⟩::rest) f w:=Zv (se hx) h hk
theorem Zl {x:Operand} {t:TypeId} {b o:Nat} {k:IntKind} {z:Int} {c:Array Value} {T:TypeId} (hx:dk f x= .pointer (some ⟨b,o,none⟩)) (hT:eJ P t=true) (hm:At w b c T) (hc:c[o]? =some (.int k z))
  (h:WL P n ops Q rest (updo f d (.int k z)) w) (hk:vQ ops f ⟨d, .load t x,ty,ps,af,g⟩ n=true:=by exact rfl):WL P n ops Q (⟨d, .load t x,ty,ps,af,g⟩::rest) f w:=Zv (cD hx hT (At.cell hm hc)) h hk
theorem ZL (v:Value) {x:Operand} {t:TypeId} {b o:Nat} {c:Array Value} {T:TypeId} (hx:dk f x= .pointer (some ⟨b,o,none⟩)) (hT:eJ P t=true) (hm:At w b c T) (hc:c[o]? =some v)
  (h:WL P n ops Q rest (updo f d v) w) (hk:vQ ops f ⟨d, .load t x,ty,ps,af,g⟩ n=true:=by exact rfl):WL P n ops Q (⟨d, .load t x,ty,ps,af,g⟩::rest) f w:=Zv (cD hx hT (At.cell hm hc)) h hk
theorem Zs (h:WL P n ops Q rest (updo f d undef) w) (hk:ZV ops f ⟨d,op,ty,ps,af,g⟩ n=true:=by exact rfl):WL P n ops Q (⟨d,op,ty,ps,af,g⟩::rest) f w:=Q7 (TA hk) rfl (TD hk) h
theorem Zy (h:Yd P ⟨d,op,ty,ps,af,g⟩ f w λv w'=>WL P n ops Q rest (updo f d v) w') (hk:vQ ops f ⟨d,op,ty,ps,af,g⟩ n=true:=by exact rfl):WL P n ops Q (⟨d,op,ty,ps,af,g⟩::rest) f w:=
 gM (w7 hk) rfl (xg hk) h
theorem Zx {b:Bool} {p q:Prop} [RQ b p] [SD b q] (hr:(execOp (dk f) ⟨d,op,ty,ps,af,g⟩).run P w= .ok (.value (.bool b)) w) (ht:p→WL P n ops Q rest (updo f d (.bool true)) w) (hf:q→WL P n ops Q rest (updo f d (.bool false)) w)
  (hk:vQ ops f ⟨d,op,ty,ps,af,g⟩ n=true:=by exact rfl):WL P n ops Q (⟨d,op,ty,ps,af,g⟩::rest) f w:=MG (w7 hk) rfl (xg hk) hr (λh=>ht (RQ.t h)) (λh=>hf (SD.f h))
theorem ZZ {k:IntKind} {z:Int} (hv:Ky f op=some (.int k z)) (h:Q (updo f d (.int k z)) w) (hk:vQ ops f ⟨d,op,ty,ps,af,g⟩ n=true:=by exact rfl):WL P n ops Q [⟨d,op,ty,ps,af,g⟩] f w:=Zi hv (ct h) hk
theorem ZT {Q:Exit→(Nat→Value)→World→Prop} {id:Nat} {a b:Int} {x y:Operand} {t t2:TypeId} {d2:Option Nat} {op2:Op} {ty2:TypeId} {ps2:String} {af2:Array Edge} {g2:Option (Nat×Bool)} {k:IntKind} {z:Int} (hx:dk f x= .int .i64 a) (hy:dk f y= .int .i64 b) (hv:Ky (updo f d (.int .i64 (a+b))) op2=some (.int k z)) (h:Q .normal (updo (updo f d (.int .i64 (a+b))) d2 (.int k z)) w)
  (h1: -9223372036854775808≤a+b:=by omega) (h2:a+b≤9223372036854775807:=by omega) (hk:vQ [⟨d, .binOp .add t x y t2,ty,ps,af,g⟩,⟨d2,op2,ty2,ps2,af2,g2⟩].toArray f ⟨d, .binOp .add t x y t2,ty,ps,af,g⟩ n=true:=by exact rfl) (hl:vQ [⟨d, .binOp .add t x y t2,ty,ps,af,g⟩,⟨d2,op2,ty2,ps2,af2,g2⟩].toArray (updo f d (.int .i64 (a+b))) ⟨d2,op2,ty2,ps2,af2,g2⟩ n=true:=by exact rfl):
  WC P n (.region id [⟨d, .binOp .add t x y t2,ty,ps,af,g⟩,⟨d2,op2,ty2,ps2,af2,g2⟩].toArray false) Q f w:=cI (Zv (eB hx hy h1 h2) (Zi hv (ct h) hl) hk)
theorem ZX {b:Bool} {p q:Prop} [RQ b p] [SD b q] (hv:Ky f op=some (.bool b)) (ht:p→WL P n ops Q rest (updo f d (.bool true)) w) (hf:q→WL P n ops Q rest (updo f d (.bool false)) w)
  (hk:vQ ops f ⟨d,op,ty,ps,af,g⟩ n=true:=by exact rfl):WL P n ops Q (⟨d,op,ty,ps,af,g⟩::rest) f w:=Zx (m9 hv) ht hf hk
theorem uW {q:Nat} {tys:Array TypeId} {ao:List Operand} {vs:List Value} (hc:cX P q=true) (hv:ao.map (dk f)=vs):
  (execOp (dk f) ⟨d, .call ⟨.value (.func q),ao.toArray,tys⟩,ty,ps,af,g⟩).run P w= .ok (.enter q vs.toArray) w:=ip (first:= #[]) (cap:= #[]) rfl hc (by simp[hv])
theorem ZC {q:Nat} {tys:Array TypeId} {ao:List Operand} {vs:List Value} {Post:Value→World→Prop} (hb:cX P q=true) (hc:Fn P q vs.toArray w Post) (hv:ao.map (dk f)=vs)
  (h:∀v w',dC w w'→Post v w'→WL P n ops Q rest (updo f d v) w') (hk:vQ ops f ⟨d, .call ⟨.value (.func q),ao.toArray,tys⟩,ty,ps,af,g⟩ n=true:=by exact rfl):
  WL P n ops Q (⟨d, .call ⟨.value (.func q),ao.toArray,tys⟩,ty,ps,af,g⟩::rest) f w:=oI (w7 hk) rfl (xg hk) (uW hb hv) hc h
theorem ZH {q:Nat} {tys:Array TypeId} {ao:List Operand} {vs:List Value} {Post:Value→World→Prop} (hb:cX P q=true) (hc:lc P q vs.toArray w Post) (hv:ao.map (dk f)=vs)
  (h:∀v w',Post v w'→WL P n ops Q rest (updo f d v) w') (hk:vQ ops f ⟨d, .call ⟨.value (.func q),ao.toArray,tys⟩,ty,ps,af,g⟩ n=true:=by exact rfl):
  WL P n ops Q (⟨d, .call ⟨.value (.func q),ao.toArray,tys⟩,ty,ps,af,g⟩::rest) f w:=mQ (w7 hk) rfl (xg hk) (uW hb hv) hc h
end
section
variable {P:Program} {n:Nat} {ops:Array Oper} {Q:(Nat→Value)→World→Prop} {S:World→Prop} {f:Nat→Value} {w:World} {k:Nat} {L:Array Bool} {d:Option Nat} {op:Op} {ty:TypeId} {ps:String} {af:Array Edge} {g:Option (Nat×Bool)}
def Oq (ops:Array Oper) (L:Array Bool) (i:Nat):Bool:=Region.noSelect ops&&Region.free .any ops L i&&(Region.ready .any ops L).contains i
theorem OM {i:Nat} (h:Oq ops L i=true):Region.noSelect ops=true∧Region.free .any ops L i=true∧(Region.ready .any ops L).contains i=true:=by
 unfold Oq at h
 rw[th,th]at h
 exact⟨h.1.1,h.1.2,h.2⟩
theorem Tk (i:Nat) {v:Value} (hi:ops[i]? =some ⟨d,op,ty,ps,af,g⟩) (hv:∀w',S w'→(execOp (dk f) ⟨d,op,ty,ps,af,g⟩).run P w'= .ok (.value v) w') (hS:S w)
  (h:WT P n ops Q S k (L.setIfInBounds i true) (updo f d v) w) (hk:vQ ops f ⟨d,op,ty,ps,af,g⟩ n=true:=by exact rfl) (ht:Oq ops L i=true:=by kernel_rfl):WT P n ops Q S (k+1) L f w:=
 have q:=OM ht
 DE i hi q.1 q.2.1 q.2.2 (w7 hk) rfl (xg hk) hv hS h
theorem Tw (i:Nat) (v:Value) (hi:ops[i]? =some ⟨d,op,ty,ps,af,g⟩) (hv:Ky f op=some v) (hS:S w)
  (h:WT P n ops Q S k (L.setIfInBounds i true) (updo f d v) w) (hk:vQ ops f ⟨d,op,ty,ps,af,g⟩ n=true:=by exact rfl) (ht:Oq ops L i=true:=by kernel_rfl):WT P n ops Q S (k+1) L f w:=
 Tk i hi (λ_ _=>m9 hv) hS h hk ht
theorem Ti (i:Nat) {q:IntKind} {z:Int} (hi:ops[i]? =some ⟨d,op,ty,ps,af,g⟩) (hv:Ky f op=some (.int q z)) (hS:S w)
  (h:WT P n ops Q S k (L.setIfInBounds i true) (updo f d (.int q z)) w) (hk:vQ ops f ⟨d,op,ty,ps,af,g⟩ n=true:=by exact rfl) (ht:Oq ops L i=true:=by kernel_rfl):WT P n ops Q S (k+1) L f w:=
 Tk i hi (λ_ _=>m9 hv) hS h hk ht
theorem Ty (i:Nat) {b:Bool} (hi:ops[i]? =some ⟨d,op,ty,ps,af,g⟩) (hv:Ky f op=some (.bool b)) (hS:S w)
  (h:WT P n ops Q S k (L.setIfInBounds i true) (updo f d (.bool b)) w) (hk:vQ ops f ⟨d,op,ty,ps,af,g⟩ n=true:=by exact rfl) (ht:Oq ops L i=true:=by kernel_rfl):WT P n ops Q S (k+1) L f w:=
 Tk i hi (λ_ _=>m9 hv) hS h hk ht
theorem Tq (i:Nat) {b o:Nat} (hi:ops[i]? =some ⟨d,op,ty,ps,af,g⟩) (hv:Ky f op=some (.pointer (some ⟨b,o,none⟩))) (hS:S w)
  (h:WT P n ops Q S k (L.setIfInBounds i true) (updo f d (.pointer (some ⟨b,o,none⟩))) w) (hk:vQ ops f ⟨d,op,ty,ps,af,g⟩ n=true:=by exact rfl) (ht:Oq ops L i=true:=by kernel_rfl):WT P n ops Q S (k+1) L f w:=
 Tk i hi (λ_ _=>m9 hv) hS h hk ht
theorem Tf (i:Nat) {x:Operand} {t:TypeId} {m q b o:Nat} (hi:ops[i]? =some ⟨d, .fieldAddr t x m,ty,ps,af,g⟩) (hx:dk f x= .pointer (some ⟨b,o,none⟩)) (hT:d5 P t m=some q) (hS:S w)
  (h:WT P n ops Q S k (L.setIfInBounds i true) (updo f d (.pointer (some ⟨b,o+q,none⟩))) w) (hk:vQ ops f ⟨d, .fieldAddr t x m,ty,ps,af,g⟩ n=true:=by exact rfl) (ht:Oq ops L i=true:=by kernel_rfl):WT P n ops Q S (k+1) L f w:=
 Tk i hi (λ_ _=>si hx hT) hS h hk ht
theorem Tc (i:Nat) {x:Operand} {a:Addr} (hi:ops[i]? =some ⟨d, .nilCheck x,ty,ps,af,g⟩) (hx:dk f x= .pointer (some a)) (hS:S w)
  (h:WT P n ops Q S k (L.setIfInBounds i true) (updo f d (.pointer (some a))) w) (hk:vQ ops f ⟨d, .nilCheck x,ty,ps,af,g⟩ n=true:=by exact rfl) (ht:Oq ops L i=true:=by kernel_rfl):WT P n ops Q S (k+1) L f w:=
 Tk i hi (λ_ _=>se hx) hS h hk ht
theorem Tp (i:Nat) (hi:ops[i]? =some ⟨d,op,ty,ps,af,g⟩) (hS:S w) (h:WT P n ops Q S k (L.setIfInBounds i true) (updo f d undef) w) (hk:ZV ops f ⟨d,op,ty,ps,af,g⟩ n=true:=by exact rfl)
  (ht:Oq ops L i=true:=by kernel_rfl):WT P n ops Q S (k+1) L f w:=
 have q:=OM ht
 RN i hi q.1 q.2.1 q.2.2 (TA hk) rfl (TD hk) hS h
theorem Tx (i:Nat) {b:Bool} {p q:Prop} [RQ b p] [SD b q] (hi:ops[i]? =some ⟨d,op,ty,ps,af,g⟩) (hv:∀w',S w'→(execOp (dk f) ⟨d,op,ty,ps,af,g⟩).run P w'= .ok (.value (.bool b)) w') (hS:S w)
  (h1:p→WT P n ops Q S k (L.setIfInBounds i true) (updo f d (.bool true)) w) (h0:q→WT P n ops Q S k (L.setIfInBounds i true) (updo f d (.bool false)) w)
  (hk:vQ ops f ⟨d,op,ty,ps,af,g⟩ n=true:=by exact rfl) (ht:Oq ops L i=true:=by kernel_rfl):WT P n ops Q S (k+1) L f w:=
 have q:=OM ht
 N2 i hi q.1 q.2.1 q.2.2 (w7 hk) rfl (xg hk) hv hS (λe=>h1 (RQ.t e)) (λe=>h0 (SD.f e))
theorem To (i:Nat) (hi:ops[i]? =some ⟨d,op,ty,ps,af,g⟩) (h:Yd P ⟨d,op,ty,ps,af,g⟩ f w λv w'=>(S w'∨mO ops L i=true)∧WT P n ops Q S k (L.setIfInBounds i true) (updo f d v) w')
  (hk:vQ ops f ⟨d,op,ty,ps,af,g⟩ n=true:=by exact rfl) (hr:Region.ready .any ops L=[i]:=by kernel_rfl):WT P n ops Q S (k+1) L f w:=iY i hr hi (w7 hk) rfl (xg hk) h
theorem Td (h:Q f w) (hr:Region.ready .any ops L=[]:=by kernel_rfl):WT P n ops Q S k L f w:=P8 hr h
theorem TC {q:Nat} {tys:Array TypeId} {ao:List Operand} {vs:List Value} {Post K:Value→World→Prop} (hb:cX P q=true) (hc:Fn P q vs.toArray w Post) (hv:ao.map (dk f)=vs)
  (h:∀v w',dC w w'→Post v w'→K v w'):Yd P ⟨d, .call ⟨.value (.func q),ao.toArray,tys⟩,ty,ps,af,g⟩ f w K:=Yd.call (uW hb hv) hc h
theorem TG {q:Nat} {tys:Array TypeId} {ao:List Operand} {vs:List Value} {Post K:Value→World→Prop} (hb:cX P q=true) (hc:lc P q vs.toArray w Post) (hv:ao.map (dk f)=vs)
  (h:∀v w',Post v w'→K v w'):Yd P ⟨d, .call ⟨.value (.func q),ao.toArray,tys⟩,ty,ps,af,g⟩ f w K:=adc (uW hb hv) hc h
end
section
variable {P:Program} {n:Nat} {Q:Exit→(Nat→Value)→World→Prop} {f:Nat→Value} {w:World}
theorem Zq {x y:Code} (h:WC P n x (yx (WC P n y Q) Q) f w):WC P n (.seq x y) Q f w:=by
 refine⟨λa ha=> ?_⟩
 refine wp_seq (Code.wp_mono (λe a' w' hq=> ?_) (h.out a ha))
 obtain⟨f',hr,hq⟩:=hq
 cases e with
 |normal=>exact hq.out a' hr
 |_=>exact⟨f',hr,hq⟩
theorem qn {σ:Type} (S:List Nat) (L:σ→List (Nat×Value)) (I0:World→Prop) (h0:I0 w) (I:σ→World→Prop) {x y:Code}
  (h1:∀J:(Nat→Value)→World→Prop,(∀f2 w2 s2,dD S f2 f→ri f2 (L s2)→I0 w2→I s2 w2→J f2 w2)→WC P n x (yx J Q) f w)
  (h2:∀s g w1,I0 w1→I s w1→WC P n y Q (updL (L s) (mask S f g)) w1):WC P n (.seq x y) Q f w:=
 VX λK hK=>h1 K λf2 w2 s2 ha hl hk hi=>hK _ _ (by rw[xP ha (L s2) hl];exact h2 s2 f2 w2 hk hi)
theorem Zr {id:Nat} {l:List Oper} {y:Code} (h:WL P n l.toArray (λf w=>WC P n y Q f w) l f w):WC P n (.seq (.region id l.toArray false) y) Q f w:=Zq (cI h)
theorem Zd (S:World→World→Prop) {id:Nat} {ops:Array Oper} {y:Code} (h:∀w1,dC w w1→WT P n ops (λf w=>WC P n y Q f w) (S w1) ops.size (Array.replicate ops.size false) f w1) (hm:P.follows .mixedOrders=true:=by kernel_rfl):
  WC P n (.seq (.region id ops true) y) Q f w:=Zq (eP S hm h)
end
class EI (Q:Exit→(Nat→Value)→World→Prop) (Q':outParam (Exit→(Nat→Value)→World→Prop)):Prop where
 out:∀f w,Q' .ret f w→Q .ret f w
instance retQ_then {K:(Nat→Value)→World→Prop} {Q Q':Exit→(Nat→Value)→World→Prop} [h:EI Q Q']:EI (yx K Q) Q':=⟨λf w q=>h.out f w q⟩
instance retQ_block {id:Nat} {Q Q':Exit→(Nat→Value)→World→Prop} [h:EI Q Q']:EI (t8 id Q) Q':=⟨λf w q=>h.out f w q⟩
instance retQ_body {P:Program} {rs:Array ResultVar} {Post:Value→World→Prop}:EI (mw P rs Post) (mw P rs Post):=⟨λ_ _ q=>q⟩
theorem Zt {P:Program} {n:Nat} {Q Q':Exit→(Nat→Value)→World→Prop} {f:Nat→Value} {w:World} [h:EI Q Q'] (k:Q' .ret f w):WC P n .ret Q f w:=nX (h.out f w k)
theorem ZQ {P:Program} {n:Nat} {c:Operand} {x y:Code} {Q:Exit→(Nat→Value)→World→Prop} {f:Nat→Value} {w:World} {b:Bool} {p q:Prop} [RQ b p] [SD b q] (hc:dk f c= .bool b) (ht:p→WC P n x Q f w) (hf:q→WC P n y Q f w):WC P n (.cond c x y) Q f w:=
 DH hc (λh=>ht (RQ.t h)) (λh=>hf (SD.f h))
section
variable {a w w':World} {b:Nat} {c:Array Value} {T:TypeId}
theorem Ze (h:Below a.heap.size a w) (k:dC w w'):Below a.heap.size a w':=cW h k (am _)
instance {a w w':World}:Kp w w' (Below a.heap.size a w) (Below a.heap.size a w'):=⟨λh k=>Ze k h⟩
theorem Zg (h:Below a.heap.size a w) (hg:w.grownBy w' (some b)) (lo:a.heap.size≤b):Below a.heap.size a w':=dg h hg (am _) (λj hj=>by cases hj;exact lo)
theorem ZG {α:Type} {enc:α→List Value} {sz:Nat} {v:Value} {l:List α} (h:Below a.heap.size a w) (hg:w.grownBy w' v.ownBlock) (k:cH enc sz T w a.heap.size v l):Below a.heap.size a w':=dg h hg (am _) (cH.lt k)
theorem ZO {N:Nat} (e:b=w.heap.size) (h:Below N a w):a.heap.size≤b:=e▸Below.size h
theorem Zn {b':Nat} (e:b=w.heap.size) (h:b'<w.heap.size):b'≠b:=Nat.ne_of_lt (e▸h)
end
end
section
open Go Go.RowKit
theorem IO:cX Tryz.prog 125=true:=by kernel_rfl
theorem QN:cX Tryz.prog 164=true:=by kernel_rfl
theorem Gw:Tryz.prog.isIface 194=true:=by kernel_rfl
theorem wx:cX Tryz.prog 55=true:=by kernel_rfl
theorem gU:dW Tryz.prog 34=some (.agg #[.int .u8 0, .int .u8 0]):=by kernel_rfl
theorem pu:(Tryz.prog.info? 5).map (·.size)=some 1:=by kernel_rfl
theorem j6 {f:Nat→Value} {w:World} {d:Option Nat} {ty:TypeId} {ps:String} {af:Array Edge} {g:Option (Nat×Bool)}:
    (execOp (dk f) ⟨d, .build 34 #[],ty,ps,af,g⟩).run Tryz.prog w= .ok (.value (.agg #[.int .u8 0, .int .u8 0])) w:=by
  obtain⟨i0,hi0,hz0⟩:=Do.1 (show (Tryz.prog.info? 34).bind (·.zero)=_ from gU)
  obtain⟨j5,hj5,hs5⟩:=an.1 pu
  simp[execOp,Instr.build,zeroValue,typeInfo,sizeOf,hi0,hz0,run_underlying Tryz.underlying34,Instr.fill,d7,hj5,hs5]
theorem dh:kf Tryz.prog 34=some 2:=by kernel_rfl
theorem fC:Tryz.prog.follows .mixedOrders=true:=by kernel_rfl
theorem fM:d5 Tryz.prog 34 1=some 1:=by kernel_rfl
theorem dN:eJ Tryz.prog 5=true:=by kernel_rfl
theorem eo:d5 Tryz.prog 34 0=some 0:=by kernel_rfl
theorem qy (line word:List UInt8) (lo hi:Int) (w:World) (hgl:Gl w) (hl:line.length≤10000) (hwl:word.length≤10) (h0:0≤lo):
    Fn Tryz.prog 124 #[dY line,dY word, .int .i64 lo, .int .i64 hi] w λv w'=>v= .int .i64 (fG line word lo hi):=by
 refine cM (n:=53) Tryz.func124 rfl rfl rfl λhB=> ?_
 refine Zr<|ZZ rfl<|Zr<|Zw (.string _) rfl<|Zw (.string _) rfl<|Zv (gK rfl rfl Am)<|ZC IO (m4 _ _ _) rfl λl W5 g h=> ?_
 replace hB:=Ze hB g
 obtain rfl:=h
 refine Zw (.tuple #[.string _, .bool _]) rfl<|Zv (cZ rfl)<|Zv (c7 rfl)<|Zw (.string _) rfl<|Zb rfl<|ct ?_
 have htl:=Lib.trimPrefix_le line (word++[32])
 refine Zr<|Zw (.string _) rfl<|ZC QN (Aa _ _ (Gl.below hB hgl) (by omega)) rfl λm o i b=> ?_
 replace hB:=Ze hB i
 rcases b with b|b
 obtain⟨n2_1,ha2_1,rfl⟩:=b
 refine Zw (.tuple #[.int .i64 _, .nilIface]) rfl<|Zv (cZ rfl)<|Zv (c7 rfl)<|Zi rfl<|Zw .nilIface rfl<|ct<|Zq ?_
 have hnb:=Hr ha2_1
 have hnb1:=hnb.1
 have hnb2:=hnb.2
 refine Zr<|Zb rfl<|Zv (eR rfl)<|ZX rfl (λa=> ?_) λa=> ?_
 refine Zs<|Zs<|Zb rfl<|Zb rfl<|Zs<|Zs<|Zs<|Zb rfl<|Zb rfl<|Zs<|Zs<|Zs<|Zs<|Zb rfl ?_
 refine Zb rfl<|Zs<|Zs<|Zs<|Zb rfl<|Zb rfl<|Zs<|Zs<|Zs<|Zb rfl<|ct<|cQ rfl<|Zr<|Zi rfl ?_
 refine ct<|Zt<|df (v:= .int .i64 _) rfl ⟨hB,?_⟩
 exact TE a
 refine Zw .nilIface rfl<|Zv (LY rfl Gw)<|Zb rfl<|Zb rfl<|Zw (.string _) rfl<|Zv (mZ rfl Tryz.underlying9)<|Zv (iG rfl rfl)<|Zb rfl<|ZX rfl (λc=> ?_) λc=> ?_
 refine Zs<|Zs<|Zs<|Zs<|Zb rfl<|Zb rfl<|Zs<|Zs<|Zs<|Zb rfl<|Zb rfl<|Zs<|Zs<|Zs ?_
 refine Zb rfl<|ct<|cQ rfl<|Zr<|ZZ rfl<|Zt<|df (v:= .int .i64 _) rfl ⟨hB,?_⟩
 exact X9 c
 refine Zi rfl<|ZC wx (jj _ _ (Gl.below hB hgl) pN pN) rfl λp q j k=> ?_
 replace hB:=Ze hB j
 obtain rfl:=k
 refine Zw (.string _) rfl<|Zv (H9 rfl rfl)<|Zb rfl<|ZX rfl (λd=> ?_) λd=> ?_
 refine Zs<|Zs<|Zs<|Zb rfl<|Zb rfl<|Zs<|Zs<|Zs<|Zb rfl<|ct<|cQ rfl<|Zr<|ZZ rfl ?_
 refine Zt<|df (v:= .int .i64 _) rfl ⟨hB,?_⟩
 exact YD ha2_1 d
 refine Zi rfl<|Zi rfl<|Zv (dq rfl rfl)<|Zb rfl<|ZX rfl (λe=> ?_) λe=> ?_
 refine Zs<|Zs<|Zs<|Zb rfl<|ct<|cQ rfl<|Zr<|ZZ rfl<|Zt<|df (v:= .int .i64 _) rfl ⟨hB,?_⟩
 exact Y3 h0 a c d e
 refine Zi rfl<|Zi rfl<|Zv (iG rfl rfl)<|Zb rfl<|ct<|ZQ rfl (λf=> ?_) λf=> ?_
 refine Zr<|ZZ rfl<|Zt<|df (v:= .int .i64 _) rfl ⟨hB,?_⟩
 exact X4 a c d f
 refine cx<|Zr<|Zi rfl<|ZZ rfl<|Zt<|df (v:= .int .i64 _) rfl ⟨hB,?_⟩
 exact Yg h0 a c d e f
 obtain⟨ha2_1,n2_1,p2_1,rfl⟩:=b
 refine Zw (.tuple #[.int .i64 _, .iface _ _]) rfl<|Zv (cZ rfl)<|Zv (c7 rfl)<|Zi rfl<|Zw (.iface _ _) rfl<|ct<|Zq<|Zr<|Zb rfl<|Zv (eR rfl)<|ZX rfl (λa=> ?_) λa=> ?_
 refine Zs<|Zs<|Zb rfl<|Zb rfl<|Zs<|Zs<|Zs<|Zb rfl<|Zb rfl<|Zs<|Zs<|Zs<|Zs<|Zb rfl ?_
 refine Zb rfl<|Zs<|Zs<|Zs<|Zb rfl<|Zb rfl<|Zs<|Zs<|Zs<|Zb rfl<|ct<|cQ rfl<|Zr<|Zi rfl ?_
 refine ct<|Zt<|df (v:= .int .i64 _) rfl ⟨hB,?_⟩
 exact TE a
 refine Zw (.iface _ _) rfl<|Zv (MN rfl Gw)<|Zb rfl<|Zb rfl<|Zs<|Zs<|Zs<|Zb rfl<|Zb rfl<|Zs<|Zs<|Zs<|Zs<|Zb rfl ?_
 refine Zb rfl<|Zs<|Zs<|Zs<|Zb rfl<|Zb rfl<|Zs<|Zs<|Zs<|Zb rfl<|ct<|cQ rfl<|Zr<|Zi rfl ?_
 refine ct<|Zt<|df (v:= .int .i64 _) rfl ⟨hB,?_⟩
 exact Yj ha2_1
theorem CL (s:List UInt8) (w:World):
    Fn Tryz.prog 166 #[dY s] w λv w'=>v=if jy s=true then .tuple #[.agg #[.int .u8 ((pb s).m:Int), .int .u8 ((pb s).v:Int)], .int .i64 0]else .tuple #[.agg #[.int .u8 0, .int .u8 0], .int .i64 2]:=by
 refine cM (n:=44) Tryz.func166 rfl rfl rfl λhB=> ?_
 refine Zr<|Zy (cK gU rfl λC W3 D E b=> ?_)
 have f:=ZO D hB
 replace hB:=Ze hB E
 refine ZZ rfl<|Zq<|Zr<|Zw (.string _) rfl<|Zv (mZ rfl Tryz.underlying9)<|Zv (iG rfl rfl)<|ct<|ZQ rfl (λF=> ?_) λF=> ?_
 refine Zr<|Zv (j6)<|Zy (cA rfl rfl dh rfl b rfl rfl λac G H=> ?_)
 replace hB:=Zg hB G f
 replace b:=H
 refine ZZ rfl<|Zt<|eh rfl dh b rfl (v1:= .int .i64 2) rfl ⟨hB,?_⟩
 (rw[if_neg (by rw[JV (by omega)];decide)])
 refine cx<|Zr<|Zy (cK gU rfl λI ad t J a=> ?_)
 have g:=ZO t hB
 have d:=Zn t b.lt
 obtain⟨hB,b⟩:=J.k2 hB b
 refine ct<|Zq<|Zr<|Zw (.string _) rfl<|Zy (FU rfl Tryz.underlying9 λK ae L M N=> ?_)
 have O:=ZO L hB
 obtain⟨hB,b,a⟩:=M.k3 hB b a
 refine ct<|cy ?_
 refine cY (σ:=(Nat)) [3,3,5,6,13,42] (λi=>[]) (λi W=>(Below w.heap.size w W)∧(At W C _ 34)∧(At W I #[.int .u8 ((Az s i:Nat):Int), .int .u8 ((yI s i:Nat):Int)] 34)∧(qZ W K s i)∧(i≤s.length)∧(∀q,q<i→kh (fZ s q)=true)∧(True)) (λi=>s.length-i) (0) trivial ⟨hB,b,a,N,(my _),eT,trivial⟩ ?_
 rintro i af ag ⟨hB,b,a,hit,hi,hq,_⟩ ah h
 refine Zr ?_
 refine gM (dd:=some 13) rfl rfl rfl (IQ rfl hit (λai=> ?_) (λaj j ak P al Q k R=> ?_))
 refine Zv (sd rfl)<|ct<|Zq<|dH rfl<|cT<|Zr<|Zv (cz rfl dh rfl a)<|Zy (cA rfl rfl dh rfl b rfl rfl λao l S=> ?_)
 replace hB:=Zg hB l f
 replace a:=At.grownNe a (Ne.symm d) l
 replace hit:=qZ.grownAt hit b l
 replace b:=S
 refine ZZ rfl<|Zt<|eh rfl dh b rfl (v1:= .int .i64 0) rfl ⟨hB,?_⟩
 (have e:i=s.length:=(by omega);subst e;rw[if_pos (Dm (by omega) hq)];rfl)
 replace hB:=Zg hB k O
 replace b:=ac3 b hit k
 replace a:=ac3 a hit k
 replace hit:=R
 refine Zv (gR rfl)<|ct<|Zq<|cQ rfl<|cx<|cy<|Zr<|Zv (jm rfl)<|Zv (iQ rfl)<|Zi rfl<|ZZ rfl ?_
 have hmb:=zb s i
 have hvb:=DL s i
 have hpb:=DP (show i<8 by omega)
 refine Zr<|ZZ rfl<|cy<|Zr<|Zv (dJ rfl rfl)<|Zb rfl<|ct<|ZQ rfl (λu=> ?_) λu=> ?_
 refine Zd dC λT x=> ?_
 obtain⟨hB,b,a⟩:=x.k3 hB b a
 replace hit:=x.itW hit
 have hS:=dC.refl T
 refine Tf 0 rfl rfl fM hS<|Tk 1 rfl (λ_ hq=>cD (v:= .int .u8 _) rfl dN (At.cell (hq.at a) rfl)) hS<|Ti 2 rfl rfl hS<|Tk 3 rfl (λ_ _=>jN (m:=1) rfl rfl Om (by simp only[IntKind.bits];omega) tW) hS<|Tk 4 rfl (λ_ _=>A6 (n:=_) rfl rfl rfl vP y6) hS<|Tf 5 rfl rfl fM hS<|To 6 rfl (db (v:= .int .u8 _) rfl rfl dN rfl a fD λap o U=>⟨.inr ka,?_⟩)
 replace hB:=Zg hB o g
 replace b:=At.grownNe b d o
 replace hit:=qZ.grownAt hit a o
 replace a:=U
 replace a:At _ _ #[_,_] _:=a
 refine Td ?_
 refine eP dC fC (λV y=> ?_)
 obtain⟨hB,b,a⟩:=y.k3 hB b a
 replace hit:=y.itW hit
 have hS:=dC.refl V
 refine Tf 0 rfl rfl eo hS<|Tk 1 rfl (λ_ hq=>cD (v:= .int .u8 _) rfl dN (At.cell (hq.at a) rfl)) hS<|Ti 2 rfl rfl hS<|Tk 3 rfl (λ_ _=>jN (m:=1) rfl rfl Om (by simp only[IntKind.bits];omega) tW) hS<|Tk 4 rfl (λ_ _=>A6 (n:=_) rfl rfl rfl vP y6) hS<|Tf 5 rfl rfl eo hS<|To 6 rfl (db (v:= .int .u8 _) rfl rfl dN rfl a fD λaq p X=>⟨.inr ka,?_⟩)
 replace hB:=Zg hB p g
 replace b:=At.grownNe b d p
 replace hit:=qZ.grownAt hit a p
 replace a:=X
 replace a:At _ _ #[_,_] _:=a
 refine Td ?_
 have hbn:(fZ s i=49∨fZ s i=48∨fZ s i=45)∧j=i+1:=by omega
 obtain⟨c,hn⟩:=hbn
 subst hn
 refine h _ _ (i+1) ?_ ?_ ?_ ?_
 · repeat (first|exact dD.mask _ _ _|refine acx ?_ rfl _|refine aco ?_ _ rfl|refine acg rfl ?_)
 · exact trivial
 · exact⟨hB,b,(by (rw[←TP (.inr (by omega)),←Y1 (by omega)];exact a)),hit,(by omega),(d6 hq (BE c)),trivial⟩
 · omega
 refine Zr<|Zv (dJ rfl rfl)<|Zb rfl<|ct<|ZQ rfl (λz=> ?_) λz=> ?_
 refine eP dC fC (λY A=> ?_)
 obtain⟨hB,b,a⟩:=A.k3 hB b a
 replace hit:=A.itW hit
 have hS:=dC.refl Y
 refine Tf 0 rfl rfl eo hS<|Tk 1 rfl (λ_ hq=>cD (v:= .int .u8 _) rfl dN (At.cell (hq.at a) rfl)) hS<|Ti 2 rfl rfl hS<|Tk 3 rfl (λ_ _=>jN (m:=1) rfl rfl Om (by simp only[IntKind.bits];omega) tW) hS<|Tk 4 rfl (λ_ _=>A6 (n:=_) rfl rfl rfl vP y6) hS<|Tf 5 rfl rfl eo hS<|To 6 rfl (db (v:= .int .u8 _) rfl rfl dN rfl a fD λar r Z=>⟨.inr ka,?_⟩)
 replace hB:=Zg hB r g
 replace b:=At.grownNe b d r
 replace hit:=qZ.grownAt hit a r
 replace a:=Z
 replace a:At _ _ #[_,_] _:=a
 refine Td ?_
 have hbn:(fZ s i=49∨fZ s i=48∨fZ s i=45)∧j=i+1:=by omega
 obtain⟨c,hn⟩:=hbn
 subst hn
 refine h _ _ (i+1) ?_ ?_ ?_ ?_
 · repeat (first|exact dD.mask _ _ _|refine acx ?_ rfl _|refine aco ?_ _ rfl|refine acg rfl ?_)
 · exact trivial
 · exact⟨hB,b,(by (rw[←TP (.inl (by omega)),←TX (by omega)];exact a)),hit,(by omega),(d6 hq (BE c)),trivial⟩
 · omega
 refine Zr<|Zv (dJ rfl rfl)<|Zb rfl<|ct<|ZQ rfl (λB=> ?_) λB=> ?_
 refine cx ?_
 have hbn:(fZ s i=49∨fZ s i=48∨fZ s i=45)∧j=i+1:=by omega
 obtain⟨c,hn⟩:=hbn
 subst hn
 refine h _ _ (i+1) ?_ ?_ ?_ ?_
 · repeat (first|exact dD.mask _ _ _|refine acx ?_ rfl _|refine aco ?_ _ rfl|refine acg rfl ?_)
 · exact trivial
 · exact⟨hB,b,(by (rw[←Yf (by omega),←TX (by omega)];exact a)),hit,(by omega),(d6 hq (BE c)),trivial⟩
 · omega
 refine Zr<|Zv (j6)<|Zy (cA rfl rfl dh rfl b rfl rfl λau aa ab=> ?_)
 replace hB:=Zg hB aa f
 replace b:=ab
 refine ZZ rfl<|Zt<|eh rfl dh b rfl (v1:= .int .i64 2) rfl ⟨hB,?_⟩
 (rw[if_neg (by rw[Or P (Jm Q u z B)];decide)])
end
section
open Go Go.RowKit
theorem Mz:cX Tryz.prog 63=true:=by kernel_rfl
theorem MP:cX Tryz.prog 64=true:=by kernel_rfl
theorem sL:LV Tryz.prog 40=some (4,1):=by kernel_rfl
theorem sD:eJ Tryz.prog 38=true:=by kernel_rfl
theorem el:dW Tryz.prog 40=some (.agg #[.int .u64 0, .int .u64 0, .int .u64 0, .int .u64 0]):=by kernel_rfl
theorem cC:kf Tryz.prog 40=some 4:=by kernel_rfl
theorem Ro:cX Tryz.prog 168=true:=by kernel_rfl
theorem Dt:cX Tryz.prog 132=true:=by kernel_rfl
theorem R8:cX Tryz.prog 133=true:=by kernel_rfl
theorem QF:cX Tryz.prog 167=true:=by kernel_rfl
theorem ss:cX Tryz.prog 127=true:=by kernel_rfl
theorem KG:(Tryz.prog.info? 38).map (·.size)=some 1:=by kernel_rfl
theorem gm {f:Nat→Value} {w:World} {d:Option Nat} {ty:TypeId} {ps:String} {af:Array Edge} {g:Option (Nat×Bool)}:
    (execOp (dk f) ⟨d, .build 40 #[],ty,ps,af,g⟩).run Tryz.prog w= .ok (.value (.agg #[.int .u64 0, .int .u64 0, .int .u64 0, .int .u64 0])) w:=by
  obtain⟨i0,hi0,hz0⟩:=Do.1 (show (Tryz.prog.info? 40).bind (·.zero)=_ from el)
  obtain⟨j38,hj38,hs38⟩:=an.1 KG
  simp[execOp,Instr.build,zeroValue,typeInfo,sizeOf,hi0,hz0,run_underlying Tryz.underlying40,Instr.fill,d7,hj38,hs38]
theorem vk {f:Nat→Value} {w:World} {d:Option Nat} {ty t2:TypeId} {ps:String} {af:Array Edge} {g:Option (Nat×Bool)} {x y:Operand} {a0 a1 a2 a3 b0 b1 b2 b3:Int} (hx:dk f x= .agg #[.int .u64 a0, .int .u64 a1, .int .u64 a2, .int .u64 a3]) (hy:dk f y= .agg #[.int .u64 b0, .int .u64 b1, .int .u64 b2, .int .u64 b3]):
    (execOp (dk f) ⟨d, .binOp .eql 40 x y t2,ty,ps,af,g⟩).run Tryz.prog w= .ok (.value (.bool (decide ((a0=b0∧a1=b1∧a2=b2∧a3=b3))))) w:=by
  have hg:Tryz.prog.eqGuardType Tryz.prog.depth 40=false:=by kernel_rfl
  have ha:=mY (P:=Tryz.prog) w 9999 4 40 38 #[.int .u64 a0, .int .u64 a1, .int .u64 a2, .int .u64 a3] #[.int .u64 b0, .int .u64 b1, .int .u64 b2, .int .u64 b3]
    (λi=> .int .u64 ([a0,a1,a2,a3].getD i 0)) (λi=> .int .u64 ([b0,b1,b2,b3].getD i 0)) (λi=>[a0,a1,a2,a3].getD i 0==[b0,b1,b2,b3].getD i 0) Tryz.underlying40 ka (by simp[isAgg,run_underlying Tryz.underlying38])
    (λi hi=>by
      have:i=0∨i=1∨i=2∨i=3:=by omega
      rcases this with rfl|rfl|rfl|rfl<;>rfl)
    (λi hi=>by
      have:i=0∨i=1∨i=2∨i=3:=by omega
      rcases this with rfl|rfl|rfl|rfl<;>rfl)
    (λi hi=>run_equalIn_int w 9998 38 .u64 .u64 _ _ Tryz.underlying38)
  simp only[execOp,hx,hy,Sem.run_bind,run_eqGuard_agg _ _ _ _ _ _ _ hg,Result.andThen_ok,run_eql_struct,ha]
  simp[List.range,List.range.loop]
  by_cases q0:a0=b0<;>by_cases q1:a1=b1<;>by_cases q2:a2=b2<;>by_cases q3:a3=b3<;>simp[q0,q1,q2,q3]
theorem Ak:cX Tryz.prog 61=true:=by kernel_rfl
theorem Mv:cX Tryz.prog 20=true:=by kernel_rfl
theorem cV:fl Tryz.prog 35=some (3,1,8):=by kernel_rfl
theorem eL:(dW Tryz.prog 3).map (λz=>z.cells.size)=some 1:=by kernel_rfl
theorem uI:cX Tryz.prog 180=true:=by kernel_rfl
theorem cR:eJ Tryz.prog 3=true:=by kernel_rfl
theorem BM (p:Int) (w:World):
    Fn Tryz.prog 63 #[.int .i64 p] w λv w'=>v= .bool (od p):=by
 refine cM (n:=9) Tryz.func63 rfl rfl rfl λhB=> ?_
 refine Zr<|Zb rfl<|ct<|Zr<|Zi rfl<|Zv (kn rfl rfl)<|ZX rfl (λa=> ?_) λa=> ?_
 refine Zi rfl<|Zv (dq rfl rfl)<|Zb rfl<|Zb rfl<|ct<|Zt<|df (v:= .bool _) rfl ⟨hB,?_⟩
 simp[od];omega
 refine Zs<|Zs<|Zb rfl<|Zb rfl<|ct<|Zt<|df (v:= .bool false) rfl ⟨hB,?_⟩
 simp[od];omega
theorem Eg (p:Int) (w:World) (h0:0≤p) (h1:p<256):
    Fn Tryz.prog 64 #[.int .i64 p] w λv w'=>v= .tuple #[.int .i64 ((p.toNat/64:Nat):Int), .int .u64 ((2^(p.toNat%64):Nat):Int)]:=by
 refine cM (n:=9) Tryz.func64 rfl rfl rfl λhB=> ?_
 obtain⟨q,rfl⟩:=abj h0
 have hq:q<256:=by omega
 refine Zr<|Zi rfl<|ZZ rfl<|Zd dC λW5 a=> ?_
 replace hB:=Ze hB a
 have hS:=dC.refl W5
 refine Ti 0 rfl rfl hS<|Tk 1 rfl (λ_ _=>OV (n:=64) rfl rfl rfl Om vP) hS<|Ti 2 rfl rfl hS<|Tk 3 rfl (λ_ _=>O5 (n:=64) rfl rfl rfl Om) hS<|Tk 4 rfl (λ_ _=>jN (m:=1) rfl rfl Om (by simp only[IntKind.bits];omega) tW) hS<|Ti 5 rfl rfl hS<|Ti 6 rfl rfl hS<|Td<|Zt<|dG (v:= .int .i64 _) rfl (v1:= .int .u64 _) rfl ⟨hB,?_⟩
 have e:((q:Int)%64).toNat=q%64:=by omega
 simp[e]
theorem Bw (s:Nat) (p:Int) (w:World):
    Fn Tryz.prog 20 #[ej s, .int .i64 p] w λv w'=>v= .bool (Cq s p):=by
 refine cM (n:=21) Tryz.func20 rfl rfl rfl λhB=> ?_
 refine Zr<|Zy (dw (c:= #[_,_,_,_]) rfl rfl λi W3 j d b=> ?_)
 replace hB:=Ze hB d
 refine Zb rfl<|ct<|Zq<|Zr<|Zi rfl<|ZC Mz (BM _ _) rfl λk l e f=> ?_
 obtain⟨hB,b⟩:=e.k2 hB b
 obtain rfl:=f
 refine Zv (eR rfl)<|ct<|ZQ rfl (λa=> ?_) λa=> ?_
 refine Zr<|Zb rfl<|ct<|Zt<|df (v:= .bool false) rfl ⟨hB,?_⟩
 (simp at a;simp[Cq,a])
 refine cx<|Zr<|Zi rfl<|ZC MP (Eg _ _ (by simp[od]at a;omega) (by simp[od]at a;omega)) rfl λm o g h=> ?_
 obtain⟨hB,b⟩:=g.k2 hB b
 obtain rfl:=h
 obtain⟨q,rfl⟩:=abj (show 0≤p by simp[od]at a;omega)
 have hq:q<256:=by simp[od]at a;omega
 simp only[so]
 refine Zw (.tuple #[.int .i64 _, .int .u64 _]) rfl<|Zv (cZ rfl)<|Zv (c7 rfl)<|Zi rfl<|ZZ rfl<|Zr<|Zi rfl<|Zv (fx rfl rfl sL Om Om)<|Zv (cD (v:=wv s _) rfl sD (At.cell b (vy s _ Om)))<|Zi rfl<|Zv (m5 (n:=_) rfl rfl rfl (by exact NY _ _) (by rw[←abd (2^_)];exact Wq _ _ YS))<|Zv (iG rfl rfl)<|Zb rfl ?_
 refine ct<|Zt<|df (v:= .bool _) rfl ⟨hB,?_⟩
 exact congrArg Value.bool (LH hq)
theorem nP (s:Nat) (p:Int) (w:World):
    Fn Tryz.prog 61 #[ej s, .int .i64 p] w λv w'=>v=ej (m6 s p):=by
 refine cM (n:=21) Tryz.func61 rfl rfl rfl λhB=> ?_
 refine Zr<|Zy (dw (c:= #[_,_,_,_]) rfl rfl λC W3 h i b=> ?_)
 have j:=ZO h hB
 replace hB:=Ze hB i
 refine Zy (cK el rfl λk W6 e l a=> ?_)
 have f:=ZO e hB
 have m:=Zn e b.lt
 obtain⟨hB,b⟩:=l.k2 hB b
 replace a:At W6 k #[wv 0 0,wv 0 1,wv 0 2,wv 0 3] 40:=a
 refine ct<|Zq<|Zr<|Zi rfl<|ZC Mz (BM _ _) rfl λD E o r=> ?_
 obtain⟨hB,b,a⟩:=o.k3 hB b a
 obtain rfl:=r
 refine ct<|ZQ rfl (λd=> ?_) λd=> ?_
 refine Zr<|Zi rfl<|ZC MP (Eg _ _ (by simp[od]at d;omega) (by simp[od]at d;omega)) rfl λF G t u=> ?_
 obtain⟨hB,b,a⟩:=t.k3 hB b a
 obtain rfl:=u
 obtain⟨q,rfl⟩:=abj (show 0≤p by simp[od]at d;omega)
 have hq:q<256:=by simp[od]at d;omega
 simp only[so]
 refine Zw (.tuple #[.int .i64 _, .int .u64 _]) rfl<|Zv (cZ rfl)<|Zv (c7 rfl)<|Zi rfl<|ZZ rfl<|cI<|Zi rfl<|Zv (fx rfl rfl sL Om Om)<|Zv (cD (v:=wv s _) rfl sD (At.cell b (vy s _ Om)))<|Zi rfl<|Zv (A6 (n:=_) rfl rfl rfl (by exact NY _ _) (by rw[←abd (2^_)];exact Wq _ _ YS))<|Zv (fx rfl rfl sL Om Om)<|Zy (db (v:= .int .u64 _) rfl rfl sD rfl b iw λH g x=> ?_)
 replace hB:=Zg hB g j
 replace a:=At.grownNe a (Ne.symm m) g
 replace b:=x
 rw[OE (s':=m6 s q) (by omega) (Ph hq)]at b
 refine ct<|Zr<|Zv (cz rfl cC rfl b)<|Zy (cA rfl rfl cC rfl a rfl rfl λI y z=> ?_)
 replace hB:=Zg hB y f
 replace a:=z
 refine ct<|Zt<|jw rfl cC a rfl ⟨hB,?_⟩
 rfl
 refine cx<|Zr<|Zv (cz rfl cC rfl b)<|Zy (cA rfl rfl cC rfl a rfl rfl λJ A B=> ?_)
 replace hB:=Zg hB A f
 replace a:=B
 refine ct<|Zt<|jw rfl cC a rfl ⟨hB,?_⟩
 (simp[m6,d])
theorem ud (s t q:Nat) (op:Nat→Nat→Nat) (w:World) (hq:cX Tryz.prog q=true) (hdo:∀(x y:Nat) (w:World),x<18446744073709551616→y<18446744073709551616→Fn Tryz.prog q #[.int .u64 (x:Int), .int .u64 (y:Int)] w λv w'=>v= .int .u64 ((op x y:Nat):Int)):
    Fn Tryz.prog 132 #[ej s,ej t, .func (.func q) #[] #[]] w λv w'=>v= .agg (G0 op s t 4):=by
 refine cM (n:=24) Tryz.func132 rfl rfl rfl λhB=> ?_
 refine Zr<|Zy (dw (c:= #[_,_,_,_]) rfl rfl λo W3 O p a=> ?_)
 replace hB:=Ze hB p
 refine Zy (dw (c:= #[_,_,_,_]) rfl rfl λr W6 P u d=> ?_)
 obtain⟨hB,a⟩:=u.k2 hB a
 refine Zy (cK el rfl λi W9 z A b=> ?_)
 have B:=ZO z hB
 obtain⟨hB,a,d⟩:=A.k3 hB a d
 replace b:At W9 i #[wv 0 0,wv 0 1,wv 0 2,wv 0 3] 40:=b
 refine ct<|Zr<|Zy (cK el rfl λj C f D e=> ?_)
 have E:=ZO f hB
 have F:=Zn f a.lt
 have G:=Zn f d.lt
 have l:=Zn f b.lt
 obtain⟨hB,a,d,b⟩:=D.k4 hB a d b
 replace e:At C j #[wv 0 0,wv 0 1,wv 0 2,wv 0 3] 40:=e
 refine ct<|Zq<|Zr<|ZZ rfl<|cy ?_
 refine cY (σ:=(Nat)) [8,22] (λk=>[(9, .int .i64 (k:Int))]) (λk W=>(Below w.heap.size w W)∧(At W o _ 40)∧(At W r _ 40)∧(At W i _ 40)∧(At W j (G0 op s t k) 40)∧(k≤4)∧(True)) (λk=>4-k) (0) ⟨rfl,trivial⟩ ⟨hB,a,d,b,e,Om,trivial⟩ ?_
 rintro k Q R ⟨hB,a,d,b,e,hk,_⟩ S H
 refine Zr<|Zv (dq rfl rfl)<|ct<|Zq<|ZQ rfl (λI=> ?_) λI=> ?_
 refine cx<|Zq<|cy<|Zr<|Zi rfl<|ZZ rfl ?_
 refine eP dC fC (λJ K=> ?_)
 obtain⟨hB,a,d,b,e⟩:=K.k5 hB a d b e
 have hS:=dC.refl J
 refine Ti 0 rfl rfl hS<|Tw 1 (.func (.func q) #[] #[]) rfl rfl hS<|Ti 2 rfl rfl hS<|Tk 3 rfl (λ_ _=>fx rfl rfl sL Om Om) hS<|Tk 4 rfl (λ_ hq=>cD (v:= .int .u64 _) rfl sD (At.cell (hq.at a) (vy s k Om))) hS<|Ti 5 rfl rfl hS<|Tk 6 rfl (λ_ _=>fx rfl rfl sL Om Om) hS<|Tk 7 rfl (λ_ hq=>cD (v:= .int .u64 _) rfl sD (At.cell (hq.at d) (vy t k Om))) hS<|To 8 rfl (Yd.call (zw (q:=q) rfl hq (v0:= .int .u64 _) rfl (v1:= .int .u64 _) rfl) (hdo _ _ _ (wR _ _) (wR _ _)) λT U h L=>⟨.inl (hS.trans h),?_⟩)
 obtain⟨hB,a,d,b,e⟩:=h.k5 hB a d b e
 replace hS:=hS.trans h
 obtain rfl:=L
 refine Tk 9 rfl (λ_ _=>fx rfl rfl sL Om Om) hS<|To 10 rfl (db (v:= .int .u64 _) rfl rfl sD rfl e (by simp[K9];omega) λV g M=>⟨.inr ka,?_⟩)
 replace hB:=Zg hB g E
 replace a:=At.grownNe a F g
 replace d:=At.grownNe d G g
 replace b:=At.grownNe b l g
 replace e:=M
 rw[OP op s t k (by omega)]at e
 refine Td<|ZT rfl rfl rfl ?_
 exact H _ _ (k+1) Za ⟨rfl,trivial⟩ ⟨hB,a,d,b,e,Om,trivial⟩ Zo
 refine cT<|Zr<|Zv (cz rfl cC rfl e)<|Zy (cA rfl rfl cC rfl b rfl rfl λX m N=> ?_)
 replace hB:=Zg hB m B
 replace e:=At.grownNe e (Ne.symm l) m
 replace b:=N
 refine ct<|Zt<|jw rfl cC b rfl ⟨hB,?_⟩
 obtain rfl:k=4:=by omega
 rfl
theorem Hj (x y:Nat) (w:World) (hx:x<18446744073709551616) (hy:y<18446744073709551616):
    Fn Tryz.prog 168 #[.int .u64 (x:Int), .int .u64 (y:Int)] w λv w'=>v= .int .u64 ((x ||| y:Nat):Int):=by
 refine cM (n:=8) Tryz.func168 rfl rfl rfl λhB=> ?_
 refine Zr<|ZZ rfl<|Zr<|Zi rfl<|Zi rfl<|Zv (A6 (n:=_) rfl rfl rfl pN pN)<|ZZ rfl<|Zt<|df (v:= .int .u64 _) rfl ⟨hB,?_⟩
 rfl
theorem pq (s t:Nat) (w:World):
    Fn Tryz.prog 131 #[ej s,ej t] w λv w'=>v=ej (s ||| t):=by
 refine cM (n:=8) Tryz.func131 rfl rfl rfl λhB=> ?_
 refine Zr<|Zy (dw (c:= #[_,_,_,_]) rfl rfl λq W3 u f b=> ?_)
 replace hB:=Ze hB f
 refine Zy (dw (c:= #[_,_,_,_]) rfl rfl λz W6 A g d=> ?_)
 obtain⟨hB,b⟩:=g.k2 hB b
 refine Zy (cK el rfl λh W9 i k a=> ?_)
 have l:=ZO i hB
 obtain⟨hB,b,d⟩:=k.k3 hB b d
 replace a:At W9 h #[wv 0 0,wv 0 1,wv 0 2,wv 0 3] 40:=a
 refine ct<|Zr<|Zv (cz rfl cC rfl b)<|Zv (cz rfl cC rfl d)<|ZC (vs:=[.agg #[_,_,_,_], .agg #[_,_,_,_], .func (.func 168) #[] #[]]) Dt (ud s t 168 (λx y=>x ||| y) _ Ro (λx y w hx hy=>Hj x y w hx hy)) rfl λB C m e=> ?_
 obtain⟨hB,a⟩:=m.k2 hB a
 rw[zk (r:=s ||| t) (λj=>TU s t j)]at e
 obtain rfl:=e
 refine Zy (cA rfl rfl cC rfl a rfl rfl λD o p=> ?_)
 replace hB:=Zg hB o l
 replace a:=p
 refine ct<|Zt<|jw rfl cC a rfl ⟨hB,?_⟩
 rfl
theorem Fr (x y:Nat) (w:World) (hx:x<18446744073709551616) (hy:y<18446744073709551616):
    Fn Tryz.prog 133 #[.int .u64 (x:Int), .int .u64 (y:Int)] w λv w'=>v= .int .u64 ((x &&& y:Nat):Int):=by
 refine cM (n:=8) Tryz.func133 rfl rfl rfl λhB=> ?_
 refine Zr<|ZZ rfl<|Zr<|Zi rfl<|Zi rfl<|Zv (m5 (n:=_) rfl rfl rfl pN pN)<|ZZ rfl<|Zt<|df (v:= .int .u64 _) rfl ⟨hB,?_⟩
 rfl
theorem pB (s t:Nat) (w:World):
    Fn Tryz.prog 83 #[ej s,ej t] w λv w'=>v=ej (s &&& t):=by
 refine cM (n:=8) Tryz.func83 rfl rfl rfl λhB=> ?_
 refine Zr<|Zy (dw (c:= #[_,_,_,_]) rfl rfl λq W3 u f b=> ?_)
 replace hB:=Ze hB f
 refine Zy (dw (c:= #[_,_,_,_]) rfl rfl λz W6 A g d=> ?_)
 obtain⟨hB,b⟩:=g.k2 hB b
 refine Zy (cK el rfl λh W9 i k a=> ?_)
 have l:=ZO i hB
 obtain⟨hB,b,d⟩:=k.k3 hB b d
 replace a:At W9 h #[wv 0 0,wv 0 1,wv 0 2,wv 0 3] 40:=a
 refine ct<|Zr<|Zv (cz rfl cC rfl b)<|Zv (cz rfl cC rfl d)<|ZC (vs:=[.agg #[_,_,_,_], .agg #[_,_,_,_], .func (.func 133) #[] #[]]) Dt (ud s t 133 (λx y=>x &&& y) _ R8 (λx y w hx hy=>Fr x y w hx hy)) rfl λB C m e=> ?_
 obtain⟨hB,a⟩:=m.k2 hB a
 rw[zk (r:=s &&& t) (λj=>Vq s t j)]at e
 obtain rfl:=e
 refine Zy (cA rfl rfl cC rfl a rfl rfl λD o p=> ?_)
 replace hB:=Zg hB o l
 replace a:=p
 refine ct<|Zt<|jw rfl cC a rfl ⟨hB,?_⟩
 rfl
theorem CW (x y:Nat) (w:World) (hx:x<18446744073709551616) (hy:y<18446744073709551616):
    Fn Tryz.prog 167 #[.int .u64 (x:Int), .int .u64 (y:Int)] w λv w'=>v= .int .u64 ((andNot x y:Nat):Int):=by
 refine cM (n:=8) Tryz.func167 rfl rfl rfl λhB=> ?_
 refine Zr<|ZZ rfl<|Zr<|Zi rfl<|Zi rfl<|Zv (rl (n:=_) rfl rfl rfl pN pN)<|ZZ rfl<|Zt<|df (v:= .int .u64 _) rfl ⟨hB,?_⟩
 rfl
theorem l6 (s t:Nat) (w:World):
    Fn Tryz.prog 127 #[ej s,ej t] w λv w'=>v=ej (andNot s t):=by
 refine cM (n:=8) Tryz.func127 rfl rfl rfl λhB=> ?_
 refine Zr<|Zy (dw (c:= #[_,_,_,_]) rfl rfl λq W3 u f b=> ?_)
 replace hB:=Ze hB f
 refine Zy (dw (c:= #[_,_,_,_]) rfl rfl λz W6 A g d=> ?_)
 obtain⟨hB,b⟩:=g.k2 hB b
 refine Zy (cK el rfl λh W9 i k a=> ?_)
 have l:=ZO i hB
 obtain⟨hB,b,d⟩:=k.k3 hB b d
 replace a:At W9 h #[wv 0 0,wv 0 1,wv 0 2,wv 0 3] 40:=a
 refine ct<|Zr<|Zv (cz rfl cC rfl b)<|Zv (cz rfl cC rfl d)<|ZC (vs:=[.agg #[_,_,_,_], .agg #[_,_,_,_], .func (.func 167) #[] #[]]) Dt (ud s t 167 (λx y=>andNot x y) _ QF (λx y w hx hy=>CW x y w hx hy)) rfl λB C m e=> ?_
 obtain⟨hB,a⟩:=m.k2 hB a
 rw[zk (r:=andNot s t) (λj=>Lj s t j)]at e
 obtain rfl:=e
 refine Zy (cA rfl rfl cC rfl a rfl rfl λD o p=> ?_)
 replace hB:=Zg hB o l
 replace a:=p
 refine ct<|Zt<|jw rfl cC a rfl ⟨hB,?_⟩
 rfl
theorem gN (s t:Nat) (w:World):
    Fn Tryz.prog 79 #[ej s,ej t] w λv w'=>v= .bool (ep s t):=by
 refine cM (n:=10) Tryz.func79 rfl rfl rfl λhB=> ?_
 refine Zr<|Zy (dw (c:= #[_,_,_,_]) rfl rfl λh W3 i b a=> ?_)
 replace hB:=Ze hB b
 refine Zy (dw (c:= #[_,_,_,_]) rfl rfl λj W6 k d e=> ?_)
 obtain⟨hB,a⟩:=d.k2 hB a
 refine Zb rfl<|ct<|Zr<|Zv (cz rfl cC rfl a)<|Zv (cz rfl cC rfl e)<|ZC (vs:=[.agg #[_,_,_,_], .agg #[_,_,_,_]]) ss (l6 _ _ _) rfl λl m f g=> ?_
 replace hB:=Ze hB f
 obtain rfl:=g
 refine Zv (v:=ej 0) (gm)<|Zv (vk rfl rfl)<|Zb rfl<|ct<|Zt<|df (v:= .bool _) rfl ⟨hB,?_⟩
 simp[ep,RG]
theorem nA (n:Int) (w:World):
    Fn Tryz.prog 80 #[.int .i64 n] w λv w'=>v=if 0≤n∧n≤8 then .tuple #[ej (fm n.toNat), .int .i64 0]else .tuple #[ej 0, .int .i64 1]:=by
 refine cM (n:=23) Tryz.func80 rfl rfl rfl λhB=> ?_
 refine Zr<|Zy (cK el rfl λe W3 l o a=> ?_)
 have d:=ZO l hB
 replace hB:=Ze hB o
 replace a:At W3 e #[wv 0 0,wv 0 1,wv 0 2,wv 0 3] 40:=a
 refine ZZ rfl<|Zq<|Zr<|Zi rfl<|Zv (dq rfl rfl)<|ZX rfl (λp=> ?_) λp=> ?_
 refine Zs<|Zs<|Zb rfl<|ct<|cQ rfl<|Zr<|Zv (v:=ej 0) (gm)<|Zy (cA rfl rfl cC rfl a rfl rfl λF q r=> ?_)
 replace hB:=Zg hB q d
 replace a:=r
 refine ZZ rfl<|Zt<|eh rfl cC a rfl (v1:= .int .i64 1) rfl ⟨hB,?_⟩
 rw[if_neg (by omega)]
 refine Zi rfl<|Zv (iG rfl rfl)<|Zb rfl<|ct<|ZQ rfl (λs=> ?_) λs=> ?_
 refine Zr<|Zv (v:=ej 0) (gm)<|Zy (cA rfl rfl cC rfl a rfl rfl λG t u=> ?_)
 replace hB:=Zg hB t d
 replace a:=u
 refine ZZ rfl<|Zt<|eh rfl cC a rfl (v1:= .int .i64 1) rfl ⟨hB,?_⟩
 rw[if_neg (by omega)]
 refine cx ?_
 have hn:0≤n∧n≤8:=by omega
 refine Zr<|Zy (cK el rfl λf x g y b=> ?_)
 have z:=ZO g hB
 have h:=Zn g a.lt
 obtain⟨hB,a⟩:=y.k2 hB a
 replace b:At x f #[wv 0 0,wv 0 1,wv 0 2,wv 0 3] 40:=b
 refine ct<|Zq ?_
 have hp:=fw hn.2
 refine Zr<|Zi rfl<|Zv (jN (m:=1) rfl rfl Om (by simp only[IntKind.bits];omega) tW)<|ZZ rfl<|cy ?_
 refine cY (σ:=(Nat)) [5,5,15,21] (λk=>[(15, .int .i64 (k:Int))]) (λk W=>(Below w.heap.size w W)∧(At W e _ 40)∧(At W f #[wv (ue k) 0,wv (ue k) 1,wv (ue k) 2,wv (ue k) 3] 40)∧(k≤2^n.toNat)∧(True)) (λk=>2^n.toNat-k) (0) ⟨rfl,trivial⟩ ⟨hB,a,b,(my _),trivial⟩ ?_
 rintro k H I ⟨hB,a,b,hk,_⟩ J A
 refine Zr<|Zv (dq rfl rfl)<|ct<|Zq<|ZQ rfl (λc=> ?_) λc=> ?_
 refine cx<|Zq<|cy<|Zr<|Zi rfl<|ZZ rfl<|cI<|Zv (cz rfl cC rfl b)<|Zi rfl<|ZC (vs:=[.agg #[_,_,_,_], .int .i64 _]) Ak (nP _ _ _) rfl λK L B C=> ?_
 obtain⟨hB,a,b⟩:=B.k3 hB a b
 obtain rfl:=C
 rw[Dk (by simp only[abd]at c;omega)]
 refine Zy (cA rfl rfl cC rfl b rfl rfl λM i D=> ?_)
 replace hB:=Zg hB i z
 replace a:=At.grownNe a h i
 replace b:=D
 refine ct<|ZT rfl rfl rfl ?_
 exact A _ _ (k+1) Za ⟨rfl,trivial⟩ ⟨hB,a,b,(by simp only[abd]at c;omega),trivial⟩ (by simp only[abd]at c;omega)
 refine cT<|Zr<|Zv (cz rfl cC rfl b)<|Zy (cA rfl rfl cC rfl a rfl rfl λN j E=> ?_)
 replace hB:=Zg hB j d
 replace b:=At.grownNe b (Ne.symm h) j
 replace a:=E
 refine ZZ rfl<|Zt<|eh rfl cC a rfl (v1:= .int .i64 0) rfl ⟨hB,?_⟩
 obtain rfl:k=2^n.toNat:=by simp only[abd]at c;omega
 rw[if_pos hn];rfl
theorem nU (s:Nat) (w:World):
    Fn Tryz.prog 180 #[ej s] w λv w'=>cH dT 1 3 w' w.heap.size v (eb s):=by
 refine cM (n:=17) Tryz.func180 rfl rfl rfl λhB=> ?_
 refine Zr<|Zy (dw (c:= #[_,_,_,_]) rfl rfl λl W3 y m a=> ?_)
 replace hB:=Ze hB m
 refine Zw (.slice none 0 0) rfl<|ct<|Zr<|Zw (.slice none 0 0) rfl<|ct<|Zq<|Zr<|ZZ rfl<|cy ?_
 refine cY (σ:=(Nat)×(Value)) [3,15] (λ(k,v0)=>[(5, .int .i64 (k:Int)),(3,v0)]) (λsg W=>match sg with|(k,v0)=>(Below w.heap.size w W)∧(At W l _ 40)∧(cH dT 1 3 W w.heap.size v0 (ui s k))∧(k≤256)∧(True)) (λ(k,v0)=>256-k) ((0, .slice none 0 0)) ⟨rfl,rfl,trivial⟩ ⟨hB,a,cH.nil,Om,trivial⟩ ?_
 rintro⟨k,v0⟩ z A ⟨hB,a,ho,hk,_⟩ B f
 refine Zr<|Zv (dq rfl rfl)<|ct<|Zq<|ZQ rfl (λo=> ?_) λo=> ?_
 refine cx<|Zq<|cy<|Zr<|Zi rfl<|ZZ rfl<|Zr<|Zv (cz rfl cC rfl a)<|Zi rfl<|ZC (vs:=[.agg #[_,_,_,_], .int .i64 _]) Mv (Bw _ _ _) rfl λC D p q=> ?_
 obtain⟨hB,a,ho⟩:=p.k3 hB a ho
 obtain rfl:=q
 refine ct<|ZQ rfl (λd=> ?_) λd=> ?_
 refine cI<|Zw v0 rfl<|Zi rfl<|Zy (eC (u:= .int .i64 _) rfl cV eL rfl Dd Dd λg E h r t=> ?_)
 have F:=ZO h hB
 have G:=abE (b:=g) ho (aa1 h.symm)
 obtain⟨hB,a,ho⟩:=r.k3 hB a ho
 refine Zy (dR (v:=v0) (v2:= .slice (some ⟨g,0,none⟩) 1 1) rfl rfl cV eL Dd ho (eK t rfl) rfl (mV hB) (by have:=tY s k;omega) (by have:=tY s k;omega) λi H j e=> ?_)
 replace e:=cH.snoc (enc:=dT) (x:=_) rfl rfl rfl rfl e
 replace hB:=ZG hB j ho
 replace a:=At.grownOw a ho j Dd
 refine Zw i rfl<|ct<|ZT rfl rfl rfl ?_
 rw[yN (by omega)]at d
 exact f _ _ ((k+1,i)) Za ⟨rfl,rfl,trivial⟩ ⟨hB,a,(by (rw[w9,if_pos d];exact e)),Om,trivial⟩ Xx
 refine cx<|ZT rfl rfl rfl ?_
 rw[yN (by omega)]at d
 exact f _ _ ((k+1,v0)) Za ⟨rfl,rfl,trivial⟩ ⟨hB,a,(by (rw[w9,if_neg (by rw[d];decide)];exact ho)),Om,trivial⟩ Xx
 refine cT<|Zr<|Zw v0 rfl<|Zw v0 rfl<|ct<|Zt<|df (v:=v0) rfl ⟨hB,?_⟩
 obtain rfl:k=256:=by omega
 exact ho
theorem yp (s:Nat) (i:Int) (one:Bool) (w:World):
    Fn Tryz.prog 155 #[ej s, .int .i64 i, .bool one] w λv w'=>v=ej (if 0≤i∧i<8 then qG s i.toNat one else 0):=by
 refine cM (n:=36) Tryz.func155 rfl rfl rfl λhB=> ?_
 refine Zr<|Zy (dw (c:= #[_,_,_,_]) rfl rfl λx W3 T y d=> ?_)
 replace hB:=Ze hB y
 refine Zy (cK el rfl λo W6 z A a=> ?_)
 have h:=ZO z hB
 obtain⟨hB,d⟩:=A.k2 hB d
 replace a:At W6 o #[wv 0 0,wv 0 1,wv 0 2,wv 0 3] 40:=a
 refine ct<|Zr<|Zy (cK el rfl λq B j C b=> ?_)
 have D:=ZO j hB
 have E:=Zn j d.lt
 have r:=Zn j a.lt
 obtain⟨hB,d,a⟩:=C.k3 hB d a
 replace b:At B q #[wv 0 0,wv 0 1,wv 0 2,wv 0 3] 40:=b
 refine ct<|Zq<|Zr<|Zi rfl<|Zv (dq rfl rfl)<|ZX rfl (λF=> ?_) λF=> ?_
 refine Zs<|Zs<|Zb rfl<|ct<|cQ rfl<|Zr<|Zv (cz rfl cC rfl b)<|Zy (cA rfl rfl cC rfl a rfl rfl λU G H=> ?_)
 replace hB:=Zg hB G h
 replace a:=H
 refine ct<|Zt<|jw rfl cC a rfl ⟨hB,?_⟩
 rw[if_neg (by omega)]
 refine Zi rfl<|Zv (kn rfl rfl)<|Zb rfl<|ct<|ZQ rfl (λI=> ?_) λI=> ?_
 refine Zr<|Zv (cz rfl cC rfl b)<|Zy (cA rfl rfl cC rfl a rfl rfl λV J K=> ?_)
 replace hB:=Zg hB J h
 replace a:=K
 refine ct<|Zt<|jw rfl cC a rfl ⟨hB,?_⟩
 rw[if_neg (by omega)]
 refine cx<|Zq ?_
 have hi:0≤i∧i<8:=by omega
 have hl:=mq s
 refine Zr<|Zv (cz rfl cC rfl d)<|ZC (vs:=[.agg #[_,_,_,_]]) uI (nU _ _) rfl λl X L e=> ?_
 have M:=(Below.size hB)
 obtain⟨hB,d,a,b⟩:=L.k4 hB d a b
 replace e:=cH.mono e M
 refine Zv (de (v:=l) rfl e.sl cV)<|ZZ rfl<|cy ?_
 refine cY (σ:=(Nat)) [9,9,20,34] (λk=>[(20, .int .i64 (k:Int))]) (λk W=>(Below w.heap.size w W)∧(At W x _ 40)∧(At W o _ 40)∧(cH dT 1 3 W w.heap.size l _)∧(At W q #[wv (oY (eb s) i.toNat one k) 0,wv (oY (eb s) i.toNat one k) 1,wv (oY (eb s) i.toNat one k) 2,wv (oY (eb s) i.toNat one k) 3] 40)∧(k≤(eb s).length)∧(True)) (λk=>(eb s).length-k) (0) ⟨rfl,trivial⟩ ⟨hB,d,a,e,b,(my _),trivial⟩ ?_
 rintro k Y Z ⟨hB,d,a,e,b,hk,_⟩ aa t
 refine Zr<|Zv (dq rfl rfl)<|ct<|Zq<|ZQ rfl (λN=> ?_) λN=> ?_
 refine cx<|Zq<|cy<|Zr<|Zv (dm (v:=l) rfl e.sl rfl cV Om Om)<|Zv (cD (v:= .int .i64 _) rfl cR (dp.cell e.sl ez 0 Om Om 0 rfl))<|ZZ rfl ?_
 obtain⟨p,ab,ac,m⟩:=l9 (s:=s) (i:=k) (by omega)
 have O:(eb s).getD (k:Int).toNat 0=(p:Int):=m
 rw[O]
 refine Zr<|Zi rfl<|Zi rfl<|Zv (qQ rfl rfl Om (by simp only[IntKind.bits];omega))<|Zv (m5 (n:=1) rfl rfl rfl (by exact abr (abV _ _) pZ) vP)<|Zv (dJ rfl rfl)<|Zb rfl<|Zv (V5 rfl rfl Tryz.underlying4)<|ct<|ZQ rfl (λf=> ?_) λf=> ?_
 refine cI<|Zv (cz rfl cC rfl b)<|Zi rfl<|ZC (vs:=[.agg #[_,_,_,_], .int .i64 _]) Ak (nP _ _ _) rfl λad ae P Q=> ?_
 obtain⟨hB,d,a,e,b⟩:=P.k5 hB d a e b
 obtain rfl:=Q
 refine Zy (cA rfl rfl cC rfl b rfl rfl λaf g R=> ?_)
 replace hB:=Zg hB g D
 replace d:=At.grownNe d E g
 replace a:=At.grownNe a r g
 replace e:=cH.grownAt e b g Dd
 replace b:=R
 refine ct<|ZT rfl rfl rfl ?_
 rw[qh,ES]at f
 exact t _ _ (k+1) Za ⟨rfl,trivial⟩ ⟨hB,d,a,e,(by (rw[wW Om,m,so,if_pos (by simpa using f)];exact b)),Om,trivial⟩ Zo
 refine cx<|ZT rfl rfl rfl ?_
 rw[qh,ES]at f
 exact t _ _ (k+1) Za ⟨rfl,trivial⟩ ⟨hB,d,a,e,(by (rw[wW Om,m,so,if_neg (by simpa using f)];exact b)),Om,trivial⟩ Zo
 refine cT<|Zr<|Zv (cz rfl cC rfl b)<|Zy (cA rfl rfl cC rfl a rfl rfl λag u S=> ?_)
 replace hB:=Zg hB u h
 replace b:=At.grownNe b (Ne.symm r) u
 replace a:=S
 refine ct<|Zt<|jw rfl cC a rfl ⟨hB,?_⟩
 obtain rfl:k=(eb s).length:=by omega
 rw[if_pos hi,Pr]
end
section
open Go Go.RowKit
theorem Wb:eJ Tryz.prog 4=true:=by kernel_rfl
theorem rz:dW Tryz.prog 4=some (.bool false):=by kernel_rfl
theorem R3:cX Tryz.prog 120=true:=by kernel_rfl
theorem Qe {f:Nat→Value} {w:World} {d:Option Nat} {ty t2:TypeId} {ps:String} {af:Array Edge} {g:Option (Nat×Bool)} {x y:Operand} {a0 a1 b0 b1:Int} (hx:dk f x= .agg #[.int .u8 a0, .int .u8 a1]) (hy:dk f y= .agg #[.int .u8 b0, .int .u8 b1]):
    (execOp (dk f) ⟨d, .binOp .eql 34 x y t2,ty,ps,af,g⟩).run Tryz.prog w= .ok (.value (.bool (decide ((a0=b0∧a1=b1))))) w:=by
  have hg:Tryz.prog.eqGuardType Tryz.prog.depth 34=false:=by kernel_rfl
  have hp34:Tryz.prog.stoodInHeld 34=false:=by kernel_rfl
  have hu34:Tryz.prog.underlying 34=some (.struct (Tryz.prog.fieldsOf 34)):=by kernel_rfl
  simp only[execOp,hx,hy,Sem.run_bind,run_eqGuard_agg _ _ _ _ _ _ _ hg,Result.andThen_ok,run_eql_struct,run_equalIn_agg _ 9999 34 _ _ hu34 hp34]
  simp only[Program.fieldsOf,Tryz.underlying34]
  simp[Op.eqFields,part,isAgg,run_equalIn_int _ 9998 5 _ _ _ _ Tryz.underlying5,run_underlying Tryz.underlying5]
  by_cases q0:a0=b0<;>by_cases q1:a1=b1<;>simp[q0,q1]
theorem qY (x:Value) (l:List Int) (w:World) (hl:dp dT 1 w x l) (hL:RP l):
    Fn Tryz.prog 120 #[x] w λv w'=>v= .agg #[.int .u8 ((kN l l.length:Nat):Int), .int .u8 ((n7 l l.length:Nat):Int)]:=by
 refine cM (n:=36) Tryz.func120 rfl rfl rfl λhB=> ?_
 have h8:=hL.1
 refine Zr<|Zy (cK gU rfl λo W3 p r b=> ?_)
 have s:=ZO p hB
 replace hB:=Ze hB r
 refine ct<|Zr<|Zy (cK gU rfl λt W8 e u a=> ?_)
 have f:=ZO e hB
 have d:=Zn e b.lt
 obtain⟨hB,b⟩:=u.k2 hB b
 refine ct<|Zr<|ZZ rfl<|Zq<|Zr<|ZZ rfl<|cy ?_
 refine cY (σ:=(Nat)) [4,34] (λk=>[(5, .int .i64 (k:Int)),(4, .int .u8 ((2^k%256:Nat):Int))]) (λk W=>(Below w.heap.size w W)∧(At W o _ 34)∧(At W t #[.int .u8 ((kN l k:Nat):Int), .int .u8 ((n7 l k:Nat):Int)] 34)∧(k≤l.length)∧(True)) (λk=>l.length-k) (0) ⟨rfl,rfl,trivial⟩ ⟨hB,b,a,(my _),trivial⟩ ?_
 rintro k E F ⟨hB,b,a,hk,_⟩ G g
 refine Zq<|Zr<|Zi rfl<|Zw x rfl<|Zv (de (v:=x) rfl (Below.slT hB hl) cV)<|Zv (dq rfl rfl)<|ct<|ZQ rfl (λy=> ?_) λy=> ?_
 refine cx<|Zq<|cy<|Zq ?_
 have h7:=DP (show k<8 by omega)
 rw[act (show 2^k<256 by omega)]
 have hA:=Bt l k
 have hB2:=Ed l k
 refine Zr<|Zw x rfl<|Zi rfl<|Zv (dm (v:=x) rfl (Below.slT hB hl) rfl cV Om (by omega))<|Zv (cD (v:= .int .i64 _) rfl cR (dp.cell (Below.slT hB hl) ez 0 Om (by omega) 0 rfl))<|Zv (dq rfl rfl)<|ct<|ZQ rfl (λc=> ?_) λc=> ?_
 obtain⟨q,hq0,hq1⟩:=hL.get (k:=k) (by omega) c
 refine Zr<|Zf rfl eo<|Zl rfl dN a rfl<|Zi rfl<|Zv (M1 rfl (n:=_) rfl rfl pZ)<|Zf rfl eo<|Zy (db (v:= .int .u8 _) rfl rfl dN rfl a fD λH h z=> ?_)
 replace hB:=Zg hB h f
 replace b:=At.grownNe b d h
 replace a:=z
 replace a:At _ _ #[_,_] _:=a
 refine ct ?_
 have hq2:2^k*q≤2^k*1:=Nat.mul_le_mul_left _ hq0
 have hq3:l.getD (k:Int).toNat 0=(q:Int):=hq1
 refine eP dC fC (λA B=> ?_)
 obtain⟨hB,b,a⟩:=B.k3 hB b a
 have hS:=dC.refl A
 refine Tf 0 rfl rfl fM hS<|Tk 1 rfl (λ_ hq=>cD (v:= .int .u8 _) rfl dN (At.cell (hq.at a) rfl)) hS<|Ti 2 rfl rfl hS<|Tw 3 x rfl rfl hS<|Ti 4 rfl rfl hS<|Tk 5 rfl (λ_ hq=>dm (v:=x) rfl (hq.slT (Below.slT hB hl)) rfl cV Om (by omega)) hS<|Tk 6 rfl (λ_ hq=>cD (v:= .int .i64 _) rfl cR (dp.cell (hq.slT (Below.slT hB hl)) ez 0 Om (by omega) 0 rfl)) hS<|Tk 7 rfl (λ_ _=>i7 (m:=q) (congrArg (Value.int .i64) hq3) Tryz.underlying3 Tryz.underlying5 pZ) hS<|Tk 8 rfl (λ_ _=>Vp rfl (n:=q) rfl rfl pZ) hS<|Tk 9 rfl (λ_ _=>M1 rfl (n:=(2^k*q)) rfl rfl pZ) hS<|Tf 10 rfl rfl fM hS<|To 11 rfl (db (v:= .int .u8 _) rfl rfl dN rfl a fD λI i C=>⟨.inr ka,?_⟩)
 replace hB:=Zg hB i f
 replace b:=At.grownNe b d i
 replace a:=C
 replace a:At _ _ #[_,_] _:=a
 refine Td<|cI<|Zi rfl<|Zv (JK (n:=2) rfl rfl rfl)<|ZZ rfl<|cI<|Zi rfl<|Zv (eB rfl rfl Om Om)<|ZZ rfl ?_
 exact g _ _ (k+1) Za ⟨rfl,rfl,trivial⟩ ⟨hB,b,(by (rw[(qr (k:=k) hq1 hq0).1,(qr (k:=k) hq1 hq0).2];exact a)),Om,trivial⟩ Zo
 refine cx<|cI<|Zi rfl<|Zv (JK (n:=2) rfl rfl rfl)<|ZZ rfl<|cI<|Zi rfl<|Zv (eB rfl rfl Om Om)<|ZZ rfl ?_
 exact g _ _ (k+1) Za ⟨rfl,rfl,trivial⟩ ⟨hB,b,(by (rw[(uj (k:=k) c).1,(uj (k:=k) c).2];exact a)),Om,trivial⟩ Zo
 refine cT<|Zr<|Zv (cz rfl dh rfl a)<|Zy (cA rfl rfl dh rfl b rfl rfl λJ j D=> ?_)
 replace hB:=Zg hB j s
 replace a:=At.grownNe a (Ne.symm d) j
 replace b:=D
 refine ct<|Zt<|jw rfl dh b rfl ⟨hB,?_⟩
 obtain rfl:k=l.length:=by omega
 rfl
end
section
open Go Go.RowKit
theorem Ct:cX Tryz.prog 60=true:=by kernel_rfl
theorem nF {f:Nat→Value} {w:World} {d:Option Nat} {ty:TypeId} {ps:String} {af:Array Edge} {g:Option (Nat×Bool)} {x0 x1:Operand} {c0_0 c1_0:Value} (h0:dk f x0=c0_0) (k0:c0_0.cells= #[c0_0]) (h1:dk f x1=c1_0) (k1:c1_0.cells= #[c1_0]):
    (execOp (dk f) ⟨d, .build 34 #[(0,x0),(1,x1)],ty,ps,af,g⟩).run Tryz.prog w= .ok (.value (.agg #[c0_0,c1_0])) w:=by
  obtain⟨i0,hi0,hz0⟩:=Do.1 (show (Tryz.prog.info? 34).bind (·.zero)=_ from gU)
  obtain⟨j5,hj5,hs5⟩:=an.1 pu
  simp[execOp,h0,k0,h1,k1,Instr.build,zeroValue,typeInfo,sizeOf,hi0,hz0,run_underlying Tryz.underlying34,Instr.fill,d7,hj5,hs5]
theorem DS:cX Tryz.prog 237=true:=by kernel_rfl
theorem nq (m u:Nat) (n:Int) (w:World) (hm:m<256) (hv:u<256):
    Fn Tryz.prog 60 #[.agg #[.int .u8 (m:Int), .int .u8 (u:Int)], .int .i64 n] w λv w'=>v= .bool (dP m u n):=by
 refine cM (n:=27) Tryz.func60 rfl rfl rfl λhB=> ?_
 refine Zr<|Zy (dw (c:= #[_,_]) rfl rfl λh W3 i f a=> ?_)
 replace hB:=Ze hB f
 refine Zb rfl<|ct ?_
 have h8:n≤8→2^n.toNat≤256:=fw
 refine Zd dC λW8 g=> ?_
 obtain⟨hB,a⟩:=g.k2 hB a
 have hS:=dC.refl W8
 refine Ti 0 rfl rfl hS<|Tk 1 rfl (λ_ _=>kn rfl rfl) hS<|Tx 2 rfl (λ_ _=>jY (v:= .bool _) rfl) hS (λd=> ?_) λd=> ?_
 refine Ti 3 rfl rfl hS<|Tk 4 rfl (λ_ _=>tA rfl rfl) hS<|Ty 5 rfl rfl hS<|Tx 6 rfl (λ_ _=>jY (v:= .bool _) rfl) hS (λe=> ?_) λe=> ?_
 refine Tf 7 rfl rfl eo hS<|Tk 8 rfl (λ_ hq=>cD (v:= .int .u8 _) rfl dN (At.cell (hq.at a) rfl)) hS<|Tk 9 rfl (λ_ _=>i7 rfl Tryz.underlying5 Tryz.underlying3 pZ) hS<|Ti 10 rfl rfl hS<|Tk 11 rfl (λ_ _=>jN (m:=1) rfl rfl Om (by simp only[IntKind.bits];omega) (by rw[abd];have:=h8 Om;simp only[iA];omega)) hS<|Tk 12 rfl (λ_ _=>dq rfl rfl) hS<|Ty 13 rfl rfl hS<|Tx 14 rfl (λ_ _=>jY (v:= .bool _) rfl) hS (λb=> ?_) λb=> ?_
 refine Tf 15 rfl rfl fM hS<|Tk 16 rfl (λ_ hq=>cD (v:= .int .u8 _) rfl dN (At.cell (hq.at a) rfl)) hS<|Tf 17 rfl rfl eo hS<|Tk 18 rfl (λ_ hq=>cD (v:= .int .u8 _) rfl dN (At.cell (hq.at a) rfl)) hS<|Tk 19 rfl (λ_ _=>rl (n:=_) rfl rfl rfl pN pN) hS<|Tk 20 rfl (λ_ _=>dJ rfl rfl) hS<|Ty 21 rfl rfl hS<|Ty 22 rfl rfl hS<|Td<|Zt<|df (v:= .bool _) rfl ⟨hB,?_⟩
 exact congrArg Value.bool (Mx d e b)
 refine Tp 15 rfl hS<|Tp 16 rfl hS<|Tp 17 rfl hS<|Tp 18 rfl hS<|Tp 19 rfl hS<|Tp 20 rfl hS<|Ty 21 rfl rfl hS<|Ty 22 rfl rfl hS<|Td<|Zt<|df (v:= .bool false) rfl ⟨hB,?_⟩
 exact congrArg Value.bool (Mu b)
 refine Tp 7 rfl hS<|Tp 8 rfl hS<|Tp 9 rfl hS<|Tp 10 rfl hS<|Tp 11 rfl hS<|Tp 12 rfl hS<|Ty 13 rfl rfl hS<|Ty 14 rfl rfl hS<|Tp 15 rfl hS<|Tp 16 rfl hS<|Tp 17 rfl hS<|Tp 18 rfl hS<|Tp 19 rfl hS<|Tp 20 rfl hS ?_
 refine Ty 21 rfl rfl hS<|Ty 22 rfl rfl hS<|Td<|Zt<|df (v:= .bool false) rfl ⟨hB,?_⟩
 exact congrArg Value.bool (Cf (by omega)).symm
 refine Tp 3 rfl hS<|Tp 4 rfl hS<|Ty 5 rfl rfl hS<|Ty 6 rfl rfl hS<|Tp 7 rfl hS<|Tp 8 rfl hS<|Tp 9 rfl hS<|Tp 10 rfl hS<|Tp 11 rfl hS<|Tp 12 rfl hS<|Ty 13 rfl rfl hS<|Ty 14 rfl rfl hS<|Tp 15 rfl hS<|Tp 16 rfl hS ?_
 refine Tp 17 rfl hS<|Tp 18 rfl hS<|Tp 19 rfl hS<|Tp 20 rfl hS<|Ty 21 rfl rfl hS<|Ty 22 rfl rfl hS<|Td<|Zt<|df (v:= .bool false) rfl ⟨hB,?_⟩
 exact congrArg Value.bool (Cf (by omega)).symm
theorem kx (m u:Nat) (n:Int) (w:World) (hm:m<256) (hv:u<256):
    Fn Tryz.prog 18 #[.agg #[.int .u8 (m:Int), .int .u8 (u:Int)], .int .i64 n] w λv w'=>v=if dP m u n=true then .tuple #[ej (qU m u n.toNat), .int .i64 0]else .tuple #[ej 0, .int .i64 1]:=by
 refine cM (n:=31) Tryz.func18 rfl rfl rfl λhB=> ?_
 refine Zr<|Zy (dw (c:= #[_,_]) rfl rfl λr W3 K s b=> ?_)
 replace hB:=Ze hB s
 refine Zy (cK el rfl λh W6 t x a=> ?_)
 have i:=ZO t hB
 obtain⟨hB,b⟩:=x.k2 hB b
 replace a:At W6 h #[wv 0 0,wv 0 1,wv 0 2,wv 0 3] 40:=a
 refine ZZ rfl<|Zq<|Zr<|Zv (cz rfl dh rfl b)<|Zi rfl<|ZC (vs:=[.agg #[_,_], .int .i64 _]) Ct (nq _ _ _ _ pN pN) rfl λL M y z=> ?_
 obtain⟨hB,b,a⟩:=y.k3 hB b a
 obtain rfl:=z
 refine Zv (eR rfl)<|ct<|ZQ rfl (λe=> ?_) λe=> ?_
 refine Zr<|Zv (v:=ej 0) (gm)<|Zy (cA rfl rfl cC rfl a rfl rfl λN A B=> ?_)
 replace hB:=Zg hB A i
 replace a:=B
 refine ZZ rfl<|Zt<|eh rfl cC a rfl (v1:= .int .i64 1) rfl ⟨hB,?_⟩
 rw[if_neg (by simpa using e)]
 refine cx ?_
 have hr:dP m u n=true:=by simpa using e
 obtain⟨hn0,hn8,hmn,hvm⟩:=du.1 hr
 have hp:=fw hn8
 refine Zr<|Zy (cK el rfl λj C l D d=> ?_)
 have E:=ZO l hB
 have o:=Zn l a.lt
 obtain⟨hB,b,a⟩:=D.k3 hB b a
 replace d:At C j #[wv 0 0,wv 0 1,wv 0 2,wv 0 3] 40:=d
 refine ct<|Zq<|Zr<|Zi rfl<|Zv (jN (m:=1) rfl rfl Om (by simp only[IntKind.bits];omega) Wy)<|ZZ rfl<|cy ?_
 refine cY (σ:=(Nat)) [7,7,15,29] (λk=>[(15, .int .i64 (k:Int))]) (λk W=>(Below w.heap.size w W)∧(At W r _ 34)∧(At W h _ 40)∧(At W j #[wv (oK m u k) 0,wv (oK m u k) 1,wv (oK m u k) 2,wv (oK m u k) 3] 40)∧(k≤2^n.toNat)∧(True)) (λk=>2^n.toNat-k) (0) ⟨rfl,trivial⟩ ⟨hB,b,a,d,(my _),trivial⟩ ?_
 rintro k O P ⟨hB,b,a,d,hk,_⟩ Q p
 refine Zr<|Zv (dq rfl rfl)<|ct<|Zq<|ZQ rfl (λF=> ?_) λF=> ?_
 refine cx<|Zq<|cy<|Zr<|Zi rfl<|ZZ rfl<|Zr<|Zi rfl<|Zv (i7 rfl Tryz.underlying3 Tryz.underlying5 pZ)<|Zf rfl eo<|Zl rfl dN b rfl<|Zv (m5 (n:=_) rfl rfl rfl vP pN) ?_
 refine Zf rfl fM<|Zl rfl dN b rfl<|Zv (dJ rfl rfl)<|ct<|ZQ rfl (λf=> ?_) λf=> ?_
 refine cI<|Zv (cz rfl cC rfl d)<|Zi rfl<|ZC (vs:=[.agg #[_,_,_,_], .int .i64 _]) Ak (nP _ _ _) rfl λR S G H=> ?_
 obtain⟨hB,b,a,d⟩:=G.k4 hB b a d
 obtain rfl:=H
 refine Zy (cA rfl rfl cC rfl d rfl rfl λT g I=> ?_)
 replace hB:=Zg hB g E
 replace b:=At.grownAt b d g Dd
 replace a:=At.grownNe a o g
 replace d:=I
 refine ct<|ZT rfl rfl rfl ?_
 exact p _ _ (k+1) Za ⟨rfl,trivial⟩ ⟨hB,b,a,(by (rw[Sk f];exact d)),RB,trivial⟩ RB
 refine cx<|ZT rfl rfl rfl ?_
 exact p _ _ (k+1) Za ⟨rfl,trivial⟩ ⟨hB,b,a,(by (rw[RJ f];exact d)),RB,trivial⟩ RB
 refine cT<|Zr<|Zv (cz rfl cC rfl d)<|Zy (cA rfl rfl cC rfl a rfl rfl λU q J=> ?_)
 replace hB:=Zg hB q i
 replace d:=At.grownNe d (Ne.symm o) q
 replace a:=J
 refine ZZ rfl<|Zt<|eh rfl cC a rfl (v1:= .int .i64 0) rfl ⟨hB,?_⟩
 have hk2:k=2^n.toNat:=by simp only[abd]at*;omega
 subst hk2
 rw[if_pos hr];rfl
theorem pQ (m u:Nat) (w:World) (hm:m<256) (hv:u<256):
    Fn Tryz.prog 237 #[.agg #[.int .u8 (m:Int), .int .u8 (u:Int)]] w λv w'=>v= .agg #[.int .u8 (m:Int), .int .u8 ((u &&& m:Nat):Int)]:=by
 refine cM (n:=11) Tryz.func237 rfl rfl rfl λhB=> ?_
 refine Zr<|Zy (dw (c:= #[_,_]) rfl rfl λj W3 k d a=> ?_)
 replace hB:=Ze hB d
 refine Zy (cK gU rfl λl W6 e f b=> ?_)
 have g:=ZO e hB
 obtain⟨hB,a⟩:=f.k2 hB a
 refine ct<|Zr<|Zf rfl eo<|Zl rfl dN a rfl<|Zf rfl fM<|Zl rfl dN a rfl<|Zf rfl eo<|Zl rfl dN a rfl<|Zv (m5 (n:=_) rfl rfl rfl pN pN)<|Zv (nF (h0:=rfl) (k0:=rfl) (h1:=rfl) (k1:=rfl) (c0_0:= .int .u8 _) (c1_0:= .int .u8 _))<|Zy (cA rfl rfl dh rfl b rfl rfl λo h i=> ?_)
 replace hB:=Zg hB h g
 replace b:=i
 refine ct<|Zt<|jw rfl dh b rfl ⟨hB,?_⟩
 rfl
theorem lS (m u:Nat) (i:Int) (w:World) (hm:m<256) (hv:u<256):
    Fn Tryz.prog 198 #[.agg #[.int .u8 (m:Int), .int .u8 (u:Int)], .int .i64 i] w λv w'=>v=ZW m u i:=by
 refine cM (n:=19) Tryz.func198 rfl rfl rfl λhB=> ?_
 refine Zr<|Zy (dw (c:= #[_,_]) rfl rfl λH W3 j k b=> ?_)
 have l:=ZO j hB
 replace hB:=Ze hB k
 refine Zy (cK gU rfl λI W6 f o a=> ?_)
 have e:=ZO f hB
 have p:=Zn f b.lt
 obtain⟨hB,b⟩:=o.k2 hB b
 refine ct<|Zq<|Zr<|Zi rfl<|Zv (kn rfl rfl)<|ZX rfl (λq=> ?_) λq=> ?_
 refine Zi rfl<|Zv (dq rfl rfl)<|Zb rfl<|ct<|ZQ rfl (λr=> ?_) λr=> ?_
 have h7:=DP (show i.toNat<8 by omega)
 have hle:=sR m (1*2^i.toNat)
 refine eP dC fC (λs t=> ?_)
 obtain⟨hB,b,a⟩:=t.k3 hB b a
 have hS:=dC.refl s
 refine Tf 0 rfl rfl eo hS<|Tk 1 rfl (λ_ hq=>cD (v:= .int .u8 _) rfl dN (At.cell (hq.at b) rfl)) hS<|Ti 2 rfl rfl hS<|Tk 3 rfl (λ_ _=>jN (m:=1) rfl rfl Om (by simp only[IntKind.bits];omega) Wy) hS<|Tk 4 rfl (λ_ _=>rl (n:=_) rfl rfl rfl pN Wy) hS<|Tf 5 rfl rfl eo hS<|To 6 rfl (db (v:= .int .u8 _) rfl rfl dN rfl b fD λJ g x=>⟨.inr ka,?_⟩)
 replace hB:=Zg hB g l
 replace a:=At.grownNe a (Ne.symm p) g
 replace b:=x
 replace b:At _ _ #[_,_] _:=b
 refine Td<|Zr<|Zv (cz rfl dh rfl b)<|ZC (vs:=[.agg #[_,_]]) DS (pQ _ _ _ (by omega) (by omega)) rfl λh K y d=> ?_
 obtain⟨hB,a⟩:=y.k2 hB a
 obtain rfl:=d
 refine Zy (cA rfl rfl dh rfl a rfl rfl λL z A=> ?_)
 replace hB:=Zg hB z e
 replace a:=A
 refine ct<|Zt<|jw rfl dh a rfl ⟨hB,?_⟩
 (rw[ZW,lA,if_pos (by omega)];simp only[abd])
 refine cx<|Zr<|Zv (cz rfl dh rfl b)<|ZC (vs:=[.agg #[_,_]]) DS (pQ _ _ _ (by omega) (by omega)) rfl λh M B d=> ?_
 obtain⟨hB,a⟩:=B.k2 hB a
 obtain rfl:=d
 refine Zy (cA rfl rfl dh rfl a rfl rfl λN C D=> ?_)
 replace hB:=Zg hB C e
 replace a:=D
 refine ct<|Zt<|jw rfl dh a rfl ⟨hB,?_⟩
 (rw[ZW,lA,if_neg (by omega)])
 refine Zs<|Zs<|Zb rfl<|ct<|dH rfl<|cx<|Zr<|Zv (cz rfl dh rfl b)<|ZC (vs:=[.agg #[_,_]]) DS (pQ _ _ _ (by omega) (by omega)) rfl λh O E d=> ?_
 obtain⟨hB,a⟩:=E.k2 hB a
 obtain rfl:=d
 refine Zy (cA rfl rfl dh rfl a rfl rfl λP F G=> ?_)
 replace hB:=Zg hB F e
 replace a:=G
 refine ct<|Zt<|jw rfl dh a rfl ⟨hB,?_⟩
 (rw[ZW,lA,if_neg (by omega)])
end
section
open Go Go.RowKit
theorem mn:d5 Tryz.prog 24 0=some 0:=by kernel_rfl
theorem fT:d5 Tryz.prog 24 1=some 1:=by kernel_rfl
theorem gD:d5 Tryz.prog 24 2=some 2:=by kernel_rfl
theorem fW:d5 Tryz.prog 24 3=some 3:=by kernel_rfl
theorem iU:eJ Tryz.prog 22=true:=by kernel_rfl
theorem gY:fl Tryz.prog 22=some (37,3,32):=by kernel_rfl
theorem f7:kf Tryz.prog 37=some 3:=by kernel_rfl
theorem oZ:dW Tryz.prog 37=some (.agg #[.int .u8 0, .int .u8 0, .slice none 0 0]):=by kernel_rfl
theorem wj:d5 Tryz.prog 37 0=some 0:=by kernel_rfl
theorem gX:d5 Tryz.prog 37 1=some 2:=by kernel_rfl
theorem fp:eJ Tryz.prog 35=true:=by kernel_rfl
theorem w5 (T:Tb) (lv:Value) (vs:List AA) (w:World) (hlv:dp ik 3 w lv vs) (hls:qW w vs T.ls) (hmb:∀i,i<T.ls.length→(T.ls.getD i jE).c.m<256∧(T.ls.getD i jE).c.v<256):
    Fn Tryz.prog 54 #[.agg #[.int .i64 T.kind, .int .i64 T.ni, .int .i64 T.no,lv]] w λv w'=>v= .bool (fy T):=by
 refine cM (n:=77) Tryz.func54 rfl rfl rfl λhB=> ?_
 have hle:=hls.len
 refine Zr<|Zy (dw (c:= #[_,_,_,_]) rfl rfl λl W3 N s a=> ?_)
 replace hB:=Ze hB s
 refine Zb rfl<|ct<|Zq<|Zr<|Zf rfl mn<|Zl rfl cR a rfl<|Zv (dq rfl rfl)<|ZX rfl (λt=> ?_) λt=> ?_
 refine Zs<|Zs<|Zs<|Zb rfl<|Zb rfl<|Zs<|Zs<|Zs<|Zb rfl<|Zb rfl<|Zs<|Zs<|Zs<|Zb rfl ?_
 refine Zb rfl<|Zs<|Zs<|Zs<|Zb rfl<|Zb rfl<|Zs<|Zs<|Zs<|Zb rfl<|Zb rfl<|Zs<|Zs<|Zs ?_
 refine Zs<|Zb rfl<|ct<|cQ rfl<|Zr<|Zb rfl<|ct<|Zt<|df (v:= .bool false) rfl ⟨hB,?_⟩
 exact nZ (by omega)
 refine Zf rfl mn<|Zl rfl cR a rfl<|Zv (iG rfl rfl)<|Zb rfl<|ZX rfl (λu=> ?_) λu=> ?_
 refine Zs<|Zs<|Zs<|Zb rfl<|Zb rfl<|Zs<|Zs<|Zs<|Zb rfl<|Zb rfl<|Zs<|Zs<|Zs<|Zb rfl ?_
 refine Zb rfl<|Zs<|Zs<|Zs<|Zb rfl<|Zb rfl<|Zs<|Zs<|Zs<|Zs<|Zb rfl<|ct<|cQ rfl<|Zr ?_
 refine Zb rfl<|ct<|Zt<|df (v:= .bool false) rfl ⟨hB,?_⟩
 exact nZ (by omega)
 refine Zf rfl fT<|Zl rfl cR a rfl<|Zv (dq rfl rfl)<|Zb rfl<|ZX rfl (λx=> ?_) λx=> ?_
 refine Zs<|Zs<|Zs<|Zb rfl<|Zb rfl<|Zs<|Zs<|Zs<|Zb rfl<|Zb rfl<|Zs<|Zs<|Zs<|Zb rfl ?_
 refine Zb rfl<|Zs<|Zs<|Zs<|Zs<|Zb rfl<|ct<|cQ rfl<|Zr<|Zb rfl<|ct<|Zt<|df (v:= .bool false) rfl ⟨hB,?_⟩
 exact nZ (by omega)
 refine Zf rfl fT<|Zl rfl cR a rfl<|Zv (iG rfl rfl)<|Zb rfl<|ZX rfl (λy=> ?_) λy=> ?_
 refine Zs<|Zs<|Zs<|Zb rfl<|Zb rfl<|Zs<|Zs<|Zs<|Zb rfl<|Zb rfl<|Zs<|Zs<|Zs<|Zs ?_
 refine Zb rfl<|ct<|cQ rfl<|Zr<|Zb rfl<|ct<|Zt<|df (v:= .bool false) rfl ⟨hB,?_⟩
 exact nZ (by omega)
 refine Zf rfl gD<|Zl rfl cR a rfl<|Zv (dq rfl rfl)<|Zb rfl<|ZX rfl (λz=> ?_) λz=> ?_
 refine Zs<|Zs<|Zs<|Zb rfl<|Zb rfl<|Zs<|Zs<|Zs<|Zs<|Zb rfl<|ct<|cQ rfl<|Zr<|Zb rfl ?_
 refine ct<|Zt<|df (v:= .bool false) rfl ⟨hB,?_⟩
 exact nZ (by omega)
 refine Zf rfl gD<|Zl rfl cR a rfl<|Zv (iG rfl rfl)<|Zb rfl<|ZX rfl (λA=> ?_) λA=> ?_
 refine Zs<|Zs<|Zs<|Zs<|Zb rfl<|ct<|cQ rfl<|Zr<|Zb rfl<|ct<|Zt<|df (v:= .bool false) rfl ⟨hB,?_⟩
 exact nZ (by omega)
 refine Zf rfl fW<|ZL lv rfl iU a rfl<|Zv (de (v:=lv) rfl (Below.slT hB hlv) gY)<|Zv (iG rfl rfl)<|Zb rfl<|ct<|ZQ rfl (λB=> ?_) λB=> ?_
 refine Zr<|Zb rfl<|ct<|Zt<|df (v:= .bool false) rfl ⟨hB,?_⟩
 exact nZ (by omega)
 refine cx<|Zq<|Zr<|Zf rfl fW<|ZL lv rfl iU a rfl<|Zv (de (v:=lv) rfl (Below.slT hB hlv) gY)<|ZZ rfl<|cy ?_
 refine cY (σ:=(Nat)) [2,2,4,4,6,6,44,76] (λk=>[(44, .int .i64 (k:Int))]) (λk W=>(Below w.heap.size w W)∧(At W l _ 24)∧(k≤T.ls.length)∧(∀q,q<k→pE T.ni T.no (T.ls.getD q jE)=true)∧(True)) (λk=>T.ls.length-k) (0) ⟨rfl,trivial⟩ ⟨hB,a,(my _),eT,trivial⟩ ?_
 rintro k O P ⟨hB,a,hk,hq,_⟩ Q C
 refine Zr<|Zv (dq rfl rfl)<|ct<|Zq<|ZQ rfl (λD=> ?_) λD=> ?_
 refine cx<|Zq<|cy ?_
 have hck:=hls.c k (by omega)
 have hbk:=hmb k (by omega)
 have p:(vs.getD k nG).c.m<256∧(vs.getD k nG).c.v<256:=by rw[hck];exact hbk
 refine Zr<|Zv (dm (v:=lv) rfl (Below.slT hB hlv) rfl gY Om Om)<|Zv (jc rfl f7 (dp.cell (Below.slT hB hlv) kd nG Om Om 0 rfl) (dp.cell (Below.slT hB hlv) kd nG Om Om 1 rfl) (dp.cell (Below.slT hB hlv) kd nG Om Om 2 rfl)) ?_
 have d:dp dT 1 w ((vs.getD k nG).o) ((T.ls.getD k jE).os):=hls.o k (by omega)
 refine Zy (cK oZ rfl λE R F G b=> ?_)
 have H:=ZO F hB
 obtain⟨hB,a⟩:=G.k2 hB a
 refine Zy (cA rfl rfl f7 rfl b rfl (by exact oV (dp.one d)) λS r I=> ?_)
 replace hB:=Zg hB r H
 replace a:=At.grownAt a b r Dd
 replace b:=I
 refine ct<|Zq<|Zr<|Zf rfl wj<|Zv (iq rfl dh (At.cell b rfl) (At.cell b rfl))<|Zf rfl fT<|Zl rfl cR a rfl<|ZC (vs:=[.agg #[_,_], .int .i64 _]) Ct (nq (vs.getD k nG).c.m (vs.getD k nG).c.v _ _ p.1 p.2) rfl λU V J K=> ?_
 obtain⟨hB,a,b⟩:=J.k3 hB a b
 obtain rfl:=K
 refine Zv (eR rfl)<|ZX rfl (λe=> ?_) λe=> ?_
 refine Zs<|Zs<|Zs<|Zs<|Zs<|Zs<|Zb rfl<|ct<|cQ rfl<|Zr<|Zb rfl<|ct<|Zt<|df (v:= .bool false) rfl ?_
 refine⟨hB,?_⟩
 exact vG (k:=k) (by omega) (Z5 (by rw[←hck];exact U0 e))
 refine Zf rfl gX<|ZL ((vs.getD k nG).o) rfl fp b rfl<|Zv (de (v:=(vs.getD k nG).o) rfl (Below.slT hB d) cV)<|Zf rfl gD<|Zl rfl cR a rfl<|Zv (e7 rfl rfl)<|Zb rfl<|ct<|ZQ rfl (λf=> ?_) λf=> ?_
 refine Zr<|Zb rfl<|ct<|Zt<|df (v:= .bool false) rfl ⟨hB,?_⟩
 exact vG (k:=k) (by omega) (aan f)
 refine cx<|Zr<|Zf rfl gX<|ZL ((vs.getD k nG).o) rfl fp b rfl<|Zv (de (v:=(vs.getD k nG).o) rfl (Below.slT hB d) cV)<|ZZ rfl<|cy ?_
 refine cY (σ:=(Nat)) [2,2,6,6,65,75] (λj=>[(65, .int .i64 (j:Int))]) (λj W=>(Below w.heap.size w W)∧(At W l _ 24)∧(At W E _ 37)∧(j≤(T.ls.getD k jE).os.length)∧(∀q,q<j→0≤(T.ls.getD k jE).os.getD q 0∧(T.ls.getD k jE).os.getD q 0<3)∧(True)) (λj=>(T.ls.getD k jE).os.length-j) (0) ⟨rfl,trivial⟩ ⟨hB,a,b,(my _),eT,trivial⟩ ?_
 rintro j X Y ⟨hB,a,b,hj,hqj,_⟩ Z L
 refine Zr<|Zv (dq rfl rfl)<|ct<|Zq<|ZQ rfl (λM=> ?_) λM=> ?_
 refine cx<|Zq<|cy<|Zr<|Zv (dm (v:=(vs.getD k nG).o) rfl (Below.slT hB d) rfl cV Om Om)<|Zv (cD (v:= .int .i64 _) rfl cR (dp.cell (Below.slT hB d) ez 0 Om Om 0 rfl))<|ZZ rfl<|Zr<|Zi rfl<|Zv (dq rfl rfl)<|ZX rfl (λg=> ?_) λg=> ?_
 refine Zs<|Zs<|Zb rfl<|ct<|cQ rfl<|Zr<|Zb rfl<|ct<|Zt<|df (v:= .bool false) rfl ⟨hB,?_⟩
 exact vG (k:=k) (by omega) (Yo (j:=j) (by omega) (by have h1:(T.ls.getD k jE).os.getD j 0<0:=g;omega))
 refine Zi rfl<|Zv (kn rfl rfl)<|Zb rfl<|ct<|ZQ rfl (λh=> ?_) λh=> ?_
 refine Zr<|Zb rfl<|ct<|Zt<|df (v:= .bool false) rfl ⟨hB,?_⟩
 exact vG (k:=k) (by omega) (Yo (j:=j) (by omega) (by have h1:(T.ls.getD k jE).os.getD j 0≥3:=h;omega))
 refine cx ?_
 have aa:¬(T.ls.getD k jE).os.getD j 0<0:=g
 have ab:¬(T.ls.getD k jE).os.getD j 0≥3:=h
 refine ZT rfl rfl rfl ?_
 exact L _ _ (j+1) Za ⟨rfl,trivial⟩ ⟨hB,a,b,Om,(d6 hqj Om),trivial⟩ (by show (T.ls.getD k jE).os.length-(j+1)<(T.ls.getD k jE).os.length-j;omega)
 refine cT ?_
 have hqj2:∀q,q<(T.ls.getD k jE).os.length→0≤(T.ls.getD k jE).os.getD q 0∧(T.ls.getD k jE).os.getD q 0<3:=λq hq'=>hqj q (by omega)
 refine ZT rfl rfl rfl ?_
 exact C _ _ (k+1) Za ⟨rfl,trivial⟩ ⟨hB,a,Om,(d6 hq (aaA (by rw[←hck];exact UK e) (aaN f) hqj2)),trivial⟩ Zo
 refine cT<|Zr<|Zb rfl<|ct<|Zt<|df (v:= .bool true) rfl ⟨hB,?_⟩
 exact Mc (by omega) (λq hq'=>hq q (by omega))
end
section
open Go Go.RowKit
theorem QB (u0 u1 u2:Value) (z:Array Value) (h0:u0.cells= #[u0]) (h1:u1.cells= #[u1]) (h2:u2.cells= #[u2]) (hz:z.size=3):Instr.fill (λi=>some (i*1,1)) z [(0,u0),(1,u1),(2,u2)]=some #[u0,u1,u2]:=by
 rw[fS 1 0 u0 _ z (by rw[h0];rfl) (by omega),fS 1 1 u1 _ _ (by rw[h1];rfl) (by simp[h0];omega),fS 1 2 u2 _ _ (by rw[h2];rfl) (by simp[h0,h1];omega),Instr.fill,h0,h1,h2]
 obtain⟨l⟩:=z
 match l,hz with
 |[a,b,c],_=>simp
theorem Q0 (u0 u1 u2 u3:Value) (z:Array Value) (h0:u0.cells= #[u0]) (h1:u1.cells= #[u1]) (h2:u2.cells= #[u2]) (h3:u3.cells= #[u3]) (hz:z.size=4):Instr.fill (λi=>some (i*1,1)) z [(0,u0),(1,u1),(2,u2),(3,u3)]=some #[u0,u1,u2,u3]:=by
 rw[fS 1 0 u0 _ z (by rw[h0];rfl) (by omega),fS 1 1 u1 _ _ (by rw[h1];rfl) (by simp[h0];omega),fS 1 2 u2 _ _ (by rw[h2];rfl) (by simp[h0,h1];omega),fS 1 3 u3 _ _ (by rw[h3];rfl) (by simp[h0,h1,h2];omega),Instr.fill,h0,h1,h2,h3]
 obtain⟨l⟩:=z
 match l,hz with
 |[a,b,c,d],_=>simp
section
variable {P:Program} {f:Nat→Value} {w w':World} {d:Option Nat} {ty:TypeId} {ps:String} {af:Array Edge} {g:Option (Nat×Bool)} {t e T:TypeId} {by_ N sz b:Nat} {K:Value→World→Prop}
theorem Sw {x0 x1 x2:Operand} {u0 u1 u2:Value} (hx0:dk f x0=u0) (hx1:dk f x1=u1) (hx2:dk f x2=u2) (hT:fl P t=some (e,1,by_)) (hz:(dW P e).map (λz=>z.cells.size)=some 1) (h0:u0.cells= #[u0]) (h1:u1.cells= #[u1]) (h2:u2.cells= #[u2])
  (hK:∀b w',b=w.heap.size→dC w w'→At w' b #[u0,u1,u2] e→K (.slice (some ⟨b,0,none⟩) 3 3) w'):Yd P ⟨d, .buildSlice t 3 #[(0,x0),(1,x1),(2,x2)],ty,ps,af,g⟩ f w K:=by
 obtain⟨z,hz,hzs⟩:=an.1 hz
 unfold dW at hz
 obtain⟨i,hi,hzz⟩:=Do.1 hz
 unfold fl at hT
 cases hun:P.underlying t with
 |none=>simp[hun]at hT
 |some desc=>
  cases desc<;>simp[hun]at hT
  rename_i e'
  obtain⟨i',hi',rfl,q1,rfl⟩:=hT
  obtain rfl:i'=i:=by rw[hi]at hi';exact(aaY hi').symm
  refine .val (w':=w.alloc (.cells #[u0,u1,u2] e')) ?_ (hK w.heap.size _ rfl (dC.alloc w _) (lR w _ _))
  have hf:=QB u0 u1 u2 ((Array.range (3*1)).map (z.cells[·%z.cells.size]!)) h0 h1 h2 fD
  simp only[ab4]at hf
  simp[execOp,hx0,hx1,hx2,Instr.buildSlice,run_underlying hun,sizeOf,typeInfo,hi,q1,zeroValue,hzz,newRow,hf]
theorem Kr {x0 x1 x2 x3:Operand} {u0 u1 u2 u3:Value} (hx0:dk f x0=u0) (hx1:dk f x1=u1) (hx2:dk f x2=u2) (hx3:dk f x3=u3) (hT:fl P t=some (e,1,by_)) (hz:(dW P e).map (λz=>z.cells.size)=some 1) (h0:u0.cells= #[u0]) (h1:u1.cells= #[u1]) (h2:u2.cells= #[u2]) (h3:u3.cells= #[u3])
  (hK:∀b w',b=w.heap.size→dC w w'→At w' b #[u0,u1,u2,u3] e→K (.slice (some ⟨b,0,none⟩) 4 4) w'):Yd P ⟨d, .buildSlice t 4 #[(0,x0),(1,x1),(2,x2),(3,x3)],ty,ps,af,g⟩ f w K:=by
 obtain⟨z,hz,hzs⟩:=an.1 hz
 unfold dW at hz
 obtain⟨i,hi,hzz⟩:=Do.1 hz
 unfold fl at hT
 cases hun:P.underlying t with
 |none=>simp[hun]at hT
 |some desc=>
  cases desc<;>simp[hun]at hT
  rename_i e'
  obtain⟨i',hi',rfl,q1,rfl⟩:=hT
  obtain rfl:i'=i:=by rw[hi]at hi';exact(aaY hi').symm
  refine .val (w':=w.alloc (.cells #[u0,u1,u2,u3] e')) ?_ (hK w.heap.size _ rfl (dC.alloc w _) (lR w _ _))
  have hf:=Q0 u0 u1 u2 u3 ((Array.range (4*1)).map (z.cells[·%z.cells.size]!)) h0 h1 h2 h3 fD
  simp only[ab4]at hf
  simp[execOp,hx0,hx1,hx2,hx3,Instr.buildSlice,run_underlying hun,sizeOf,typeInfo,hi,q1,zeroValue,hzz,newRow,hf]
end
end
section
open Go Go.RowKit
def D7 (m u i:Nat):UInt8:=if m/2^i%2=0 then 45 else if u/2^i%2=0 then 48 else 49
def qx (m u k:Nat):List UInt8:=(List.range k).map (D7 m u)
def uA (m u n k:Nat):List Int:=(List.range n).map λi=>if i<k then ((D7 m u i).toNat:Int)else 0
section
variable {m u n k:Nat} {x:Int}
theorem lE (m u k:Nat):(qx m u k).length=k:=by simp[qx]
theorem Ab (m u n k:Nat):(uA m u n k).length=n:=by simp[uA]
theorem LS (m u n:Nat):List.replicate n (0:Int)=uA m u n 0:=by
 refine List.ext_getElem (by simp[uA]) λi h1 h2=> ?_
 simp[uA]
theorem zY (hk:k<n) (hx:x=((D7 m u k).toNat:Int)):(uA m u n k).set k x=uA m u n (k+1):=by
 refine List.ext_getElem (by simp[uA]) λi h1 h2=> ?_
 have hi:i<n:=by simpa [uA] using h2
 rw[List.getElem_set]
 by_cases h:k=i
 ·subst h;simp[uA,hx]
 ·rw[if_neg h]
  simp only[uA,List.getElem_map,List.getElem_range]
  by_cases h3:i<k
  ·rw[if_pos h3,if_pos (by omega)]
  ·rw[if_neg h3,if_neg (by omega)]
theorem MQ (m u n:Nat):kU (uA m u n n)=qx m u n:=by
 unfold kU uA qx
 rw[List.map_map]
 refine acd λi hi=> ?_
 have h:=aba.1 hi
 simp[h]
theorem SM (h:((m/2^k &&& 1:Nat):Int)=0):(45:Int)=((D7 m u k).toNat:Int):=by
 rw[qh]at h
 unfold D7
 rw[if_pos (by omega)]
 rfl
theorem aaU (h:¬((m/2^k &&& 1:Nat):Int)=0) (h2:((u/2^k &&& 1:Nat):Int)=0):(48:Int)=((D7 m u k).toNat:Int):=by
 rw[qh]at h h2
 unfold D7
 rw[if_neg (by omega),if_pos (by omega)]
 rfl
theorem aap (h:¬((m/2^k &&& 1:Nat):Int)=0) (h2:¬((u/2^k &&& 1:Nat):Int)=0):(49:Int)=((D7 m u k).toNat:Int):=by
 rw[qh]at h h2
 unfold D7
 rw[if_neg (by omega),if_neg (by omega)]
 rfl
def Bi:List (List UInt8):=[[48],[49],[45]]
theorem Bg:Bi.length=3:=rfl
theorem Li:(Xd m u).length=8:=GV m u 8
end
def HS (x:Int):UInt8:=if x=0 then 48 else if x=1 then 49 else 45
def lH (os:List Int):List UInt8:=os.map HS
def Ay (m u:Nat) (n:Int) (os:List Int):List UInt8:=(qx m u n.toNat++[32])++lH os
section
variable {m u n k:Nat} {x:Int} {os:List Int} {a:List UInt8}
theorem pf (os:List Int):(lH os).length=os.length:=by simp[lH]
theorem K2 (hk:k<os.length):lH (os.take (k+1))=lH (os.take k)++[HS (os.getD k 0)]:=by
 unfold lH
 rw[abt,we hk,ace,me,we hk]
 rfl
theorem Lt {q:Nat} (hq:x=(q:Int)) (h:q<3):(([48,49,45]:List UInt8).drop q).take (q+1-q)=[HS x]:=by
 subst hq
 have:q=0∨q=1∨q=2:=by omega
 rcases this with rfl|rfl|rfl<;>rfl
theorem GP (hk:k<os.length) {q:Nat} (hq:os.getD (k:Int).toNat 0=(q:Int)) (h:q<3):dY ((a++lH (os.take k))++(([48,49,45]:List UInt8).drop q).take (q+1-q))=dY (a++lH (os.take (k+1))):=by
 rw[Lt hq h,so,K2 hk,abm]
theorem Wn:dY a=dY (a++lH (os.take 0)):=by simp[lH]
theorem Ad {k:Nat}:(lH (os.take k)).length≤os.length:=by rw[pf,aa4];omega
end
def gn:List (List UInt8):=[[102],[102,100],[102,114],[102,100,114]]
theorem mi:gn.length=4:=rfl
theorem wl (k:Nat):(gn.getD k []).length≤3:=by
 match k with
 |0|1|2|3=>decide
 |_+4=>exact my 3
def Gy (T:Tb):List UInt8:=([46,105,32]++ir T.ni.toNat++[10,46,111,32]++ir T.no.toNat++[10,46,116,121,112,101,32]++gn.getD T.kind.toNat []++[10,46,112,32]++ir T.ls.length)++[10]
def vS (ni:Int) (l:Ln):List UInt8:=Ay l.c.m l.c.v ni l.os
def jb (T:Tb):Nat→List UInt8
 |0=>Gy T
 |k+1=>(jb T k++vS T.ni (T.ls.getD k jE))++[10]
def iV (T:Tb):List UInt8:=jb T T.ls.length++[46,101,10]
section
variable {T:Tb} {k j:Nat} {n:Int}
theorem iR (h:fy T=true):0≤T.kind∧T.kind≤3∧0≤T.ni∧T.ni≤8∧1≤T.no∧T.no≤4∧T.ls.length≤64:=by
 unfold fy at h
 rw[th]at h
 exact of_decide_eq_true h.1
theorem pr (h:fy T=true) (hk:k<T.ls.length):pE T.ni T.no (T.ls.getD k jE)=true:=by
 unfold fy at h
 rw[th]at h
 exact aa2.1 h.2 _ (ph hk)
theorem nJ {ni no:Int} {l:Ln}:pE ni no l=true↔dP l.c.m l.c.v ni=true∧(l.os.length:Int)=no∧∀x,x∈l.os→0≤x∧x<3:=by
 unfold pE Fx
 simp[and_assoc]
theorem yb (h0:0≤n) (h:n<100):Lib.itoa n=ir n.toNat:=by
 obtain⟨q,rfl⟩:=abj h0
 exact wC (by omega)
theorem Lm (T:Tb):(Gy T).length≤40:=by
 unfold Gy
 have h1:=pM T.ni.toNat
 have h2:=pM T.no.toNat
 have h3:=pM T.ls.length
 have h4:=wl T.kind.toNat
 simp only[An,aa5,abU]
 omega
theorem Jn {ni no:Int} {l:Ln} (h:pE ni no l=true) (hn:ni≤8) (ho:no≤4):(vS ni l).length≤13:=by
 obtain⟨_,h2,_⟩:=nJ.1 h
 unfold vS Ay
 simp only[An,aa5,abU,lE,pf]
 omega
theorem oH (h:fy T=true):∀k,k≤T.ls.length→(jb T k).length≤40+14*k
 |0,_=>by have:=Lm T;simpa [jb] using this
 |k+1,hk=>by
  have ih:=oH h k (by omega)
  obtain⟨_,_,_,h8,_,h4,_⟩:=iR h
  have hl:=Jn (pr h (show k<T.ls.length by omega)) h8 h4
  rw[jb]
  simp only[An,aa5,abU]
  omega
theorem FT {c:Cb} (hc:c=(T.ls.getD k jE).c) (hj:j=(T.ls.getD k jE).os.length):dY (((jb T k++(qx c.m c.v T.ni.toNat++[32]))++lH ((T.ls.getD k jE).os.take j))++[10])=dY (jb T (k+1)):=by
 subst hj
 subst hc
 rw[jb,vS,Ay,aa7]
 simp only[abm]
theorem Wo {q:Nat} (hq:q=T.ls.length):dY (([46,105,32]++ir T.ni.toNat++[10,46,111,32]++ir T.no.toNat++[10,46,116,121,112,101,32]++gn.getD T.kind.toNat []++[10,46,112,32]++ir (q:Int).toNat)++[10])=dY (jb T 0):=by
 subst hq;rfl
theorem GW {q:Nat} (hq:q=T.ls.length) (h0:0≤T.ni) (h1:T.ni<100) (h2:0≤T.no) (h3:T.no<100) (h4:q<100):dY (([46,105,32]++Lib.itoa T.ni++[10,46,111,32]++Lib.itoa T.no++[10,46,116,121,112,101,32]++gn.getD T.kind.toNat []++[10,46,112,32]++Lib.itoa (q:Int))++[10])=dY (jb T 0):=by
 rw[yb h0 h1,yb h2 h3,yb (by omega) (by omega)]
 exact Wo hq
theorem yv (h0:0≤n) (h:n<100):(Lib.itoa n).length≤2:=by rw[yb h0 h];exact pM _
end
end
section
open Go Go.RowKit
theorem kw:fl Tryz.prog 177=some (5,1,1):=by kernel_rfl
theorem zi:(dW Tryz.prog 5).map (λz=>z.cells.size)=some 1:=by kernel_rfl
theorem jO:fl Tryz.prog 64=some (9,1,16):=by kernel_rfl
theorem G4:(dW Tryz.prog 9).map (λz=>z.cells.size)=some 1:=by kernel_rfl
theorem io (b:Bool) (w:World):
    Fn Tryz.prog 123 #[.bool b] w λv w'=>v= .int .i64 (if b=true then 0 else 2):=by
 refine cM (n:=4) Tryz.func123 rfl rfl rfl λhB=> ?_
 refine Zr<|ZZ rfl<|Zq<|Zr<|Zb rfl<|ct<|ZQ rfl (λa=> ?_) λa=> ?_
 refine Zr<|ZZ rfl<|Zt<|df (v:= .int .i64 0) rfl ⟨hB,?_⟩
 rw[if_pos a]
 refine cx<|Zr<|ZZ rfl<|Zt<|df (v:= .int .i64 2) rfl ⟨hB,?_⟩
 rw[if_neg (by rw[a];decide)]
theorem pj (n:Nat) (w:World) (hn:n<100):
    Fn Tryz.prog 88 #[.int .i64 (n:Int)] w λv w'=>v=dY (ir n):=by
 refine cM (n:=21) Tryz.func88 rfl rfl rfl λhB=> ?_
 refine Zr<|Zw (.string _) rfl<|ct<|Zr<|Zi rfl<|Zv (O5 (n:=10) rfl rfl rfl Om)<|Zv (eB rfl rfl Om Om)<|Zv (i7 (m:=48+n%10) rfl Tryz.underlying3 Tryz.underlying5 pZ)<|Zy (eC (u:= .int .u8 _) rfl kw zi rfl Dd Dd λb W5 c d e=> ?_)
 have f:=ZO c hB
 replace hB:=Ze hB d
 have g:=jf (enc:=xx) (a:=((48+n%10:Nat):Int)) e rfl rfl f
 refine Zv (qq (v:= .slice (some ⟨b,0,none⟩) 1 1) rfl g.sl Tryz.underlying177 Tryz.underlying5 Tryz.underlying9)<|Zw (dY _) rfl<|ct<|Zq<|Zr<|Zi rfl<|Zv (dq rfl rfl)<|ct<|ZQ rfl (λh=> ?_) λh=> ?_
 refine Zr<|Zw (dY _) rfl<|Zw (dY _) rfl<|ct<|Zt<|df (v:=dY _) rfl ⟨hB,?_⟩
 exact congrArg dY (Xp Om)
 refine cx<|Zr<|Zi rfl<|Zv (OV (n:=10) rfl rfl rfl Om vP)<|Zv (eB rfl rfl Om Om)<|Zv (i7 (m:=48+n/10) rfl Tryz.underlying3 Tryz.underlying5 pZ)<|Zy (eC (u:= .int .u8 _) rfl kw zi rfl Dd Dd λi q j k l=> ?_)
 have o:=ZO j hB
 replace hB:=Ze hB k
 have p:=jf (enc:=xx) (a:=((48+n/10:Nat):Int)) l rfl rfl o
 refine Zv (qq (v:= .slice (some ⟨i,0,none⟩) 1 1) rfl p.sl Tryz.underlying177 Tryz.underlying5 Tryz.underlying9)<|Zw (dY _) rfl<|Zv (gK rfl rfl (by simp[kU]))<|Zw (.string _) rfl<|ct<|Zt<|df (v:= .string _) rfl ⟨hB,?_⟩
 exact congrArg dY (XC Om)
theorem wU (w:World):
    Fn Tryz.prog 56 #[] w λv w'=>cH xC 1 9 w' w.heap.size v gn:=by
 refine cM (n:=2) Tryz.func56 rfl rfl rfl λhB=> ?_
 refine Zr<|Zw (.slice none 0 0) rfl<|ct<|Zr<|Zy (Kr rfl rfl rfl rfl jO G4 rfl rfl rfl rfl λa W5 b c d=> ?_)
 have e:=ZO b hB
 replace hB:=Ze hB c
 have f:cH xC 1 9 W5 w.heap.size (.slice (some ⟨a,0,none⟩) 4 4) gn:=xM (l:=gn) d e iN (by decide)
 refine Zw (.slice (some ⟨a,0,none⟩) 4 4) rfl<|ct<|Zt<|df (v:= .slice (some ⟨a,0,none⟩) 4 4) rfl ⟨hB,?_⟩
 exact f
theorem qo (w:World):
    Fn Tryz.prog 89 #[] w λv w'=>cH xC 1 9 w' w.heap.size v gn:=by
 refine cM (n:=2) Tryz.func89 rfl rfl rfl λhB=> ?_
 refine Zr<|Zw (.slice none 0 0) rfl<|ct<|Zr<|Zy (Kr rfl rfl rfl rfl jO G4 rfl rfl rfl rfl λa W5 b c d=> ?_)
 have e:=ZO b hB
 replace hB:=Ze hB c
 have f:cH xC 1 9 W5 w.heap.size (.slice (some ⟨a,0,none⟩) 4 4) gn:=xM (l:=gn) d e iN (by decide)
 refine Zw (.slice (some ⟨a,0,none⟩) 4 4) rfl<|ct<|Zt<|df (v:= .slice (some ⟨a,0,none⟩) 4 4) rfl ⟨hB,?_⟩
 exact f
end
end Go.Proofs.YtedeonkjellcpaaGreatDoor
