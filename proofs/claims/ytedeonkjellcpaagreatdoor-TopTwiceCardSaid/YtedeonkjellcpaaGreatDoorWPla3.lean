/- Words and walks of the row. No condition. -/
import Derived.Test.YtedeonkjellcpaaGreatDoorShelf
import Derived.Test.YtedeonkjellcpaaGreatDoorLiftT
import Derived.Test.YtedeonkjellcpaaGreatDoorProg
namespace Go.Proofs.YtedeonkjellcpaaGreatDoor
open Go Go.RowKit
set_option autoImplicit true
set_option relaxedAutoImplicit true
set_option linter.unusedVariables false
set_option linter.unusedSimpArgs false
section
structure Gl (w:World):Prop where
 bal:Bal 0 w
 esy:∃te pe,w.cell? ⟨4,0,none⟩=some (.iface te pe)
 era:∃te pe,w.cell? ⟨5,0,none⟩=some (.iface te pe)
 pow:Lib.TabIs Tryz.prog w "internal/strconv.uint64pow10" .u64 Lib.pow10Tab
theorem za {w W:World} {a:Addr} {v:Value} (h:Go.RowKit.Below w.heap.size w W) (k:w.cell? a=some v):W.cell? a=some v:=by
 rw[World.cell?_of_block (h.block a.block (World.block_lt_of_cell? _ _ k))];exact k
theorem LM {w W:World} {n:String} {k:IntKind} {zs:List Int} (h:Go.RowKit.Below w.heap.size w W) (q:Lib.TabIs Tryz.prog w n k zs):Lib.TabIs Tryz.prog W n k zs:=by
 unfold Lib.TabIs World.var? at*
 cases hg:Tryz.prog.globalNamed n with
 |none=>rw[hg]at q;cases q
 |some g=>
  rw[hg]at q
  simp only[Option.bind_some]at q ⊢
  have hlt:g<w.heap.size:=by
   rcases acy g w.heap.size with h1|h1
   ·exact h1
   ·rw[Array.getElem?_eq_none h1]at q;cases q
  rw[h.block g hlt]
  exact q
theorem Gl.below {w W:World} (h:Go.RowKit.Below w.heap.size w W) (k:Gl w):Gl W:=by
 obtain⟨h1,⟨a,b,h2⟩,⟨c,d,h3⟩,h4⟩:=k
 exact⟨h1.below h,⟨a,b,za h h2⟩,⟨c,d,za h h3⟩,LM h h4⟩
theorem dA.bytesWorld (w:World) (e:TypeId) (s:ByteArray):dA w (Lib.bytesWorld w e s):=by
 have h1:dA w (w.drew.alloc (.cells (Lib.bytesCells w e s) e)):=(ad1 w _).trans (dA.alloc _ _)
 unfold Lib.bytesWorld World.freeze
 split
 ·exact h1
 ·have a1:_=w.os:=Below.os h1
  have a2:_=w.tape:=Below.tape h1
  have a3:_=w.output:=Below.output h1
  refine⟨a1,a2,a3,?_,λk hk=> ?_⟩
  ·have:=dA.size h1
   simp only[Array.size_modify]
   exact this
  ·rw[←Below.block h1 k hk]
   show (Array.modify _ w.heap.size _)[k]? =_
   rw[Array.getElem?_modify,if_neg (by omega)]
theorem aej (w:World) (os:Array Obj):dA w (Go.Sort.grow w os):=by
 refine⟨rfl,rfl,rfl,?_,λk hk=> ?_⟩
 ·unfold Go.Sort.grow;simp
 ·unfold Go.Sort.grow
  show (w.heap++os)[k]? =_
  rw[Array.getElem?_append_left hk]
theorem nf (s p:List UInt8) (w:World):Fn Tryz.prog 125 #[ea s,ea p] w λv w'=>v= .tuple #[ea (Lib.trimPrefix s p), .bool (Lib.hasPrefix s p)]:=
 Gr (Tryz.strings_CutPrefix ⟨s.toArray⟩ ⟨p.toArray⟩ w)
theorem Br (s p:List UInt8) (w:World) (hg:Gl w) (hs:s.length<4294967281):Fn Tryz.prog 91 #[ea s,ea p] w λv w'=>v= .tuple #[ea (Lib.cut s p).1,ea (Lib.cut s p).2.1, .bool (Lib.cut s p).2.2]:=by
 obtain⟨m,hm⟩:=hg.bal
 exact⟨Calls.mono (Tryz.strings_Cut ⟨s.toArray⟩ ⟨p.toArray⟩ m w hs hm) λe w' ⟨h1,n,h2⟩=>⟨_,h1,by rw[h2];exact dA.drewN w n,rfl⟩⟩
theorem x9 (s:List UInt8) (w:World) (hg:Gl w) (hs:s.length<4294967281):Fn Tryz.prog 58 #[ea s,ea [10]] w λv w'=>cH ya 1 9 w' w.heap.size v (cQ s):=by
 obtain⟨m,hm⟩:=hg.bal
 refine⟨Calls.mono (Tryz.strings_Split ⟨s.toArray⟩ ⟨#[10]⟩ m w hs hm (by decide)) λe w' ⟨h1,h2⟩=>⟨_,h1,by rw[h2];exact dA.alloc w _,?_⟩⟩
 have hc:Lib.countB ⟨s.toArray⟩ ⟨#[10]⟩=s.count 10:=Lib.count_one 10 s
 have hd:=Lib.splitB_data ⟨#[10]⟩ 0 (s.count 10) ⟨s.toArray⟩
 rw[show (⟨s.toArray⟩:ByteArray).data.toList=s from rfl,show (⟨#[10]⟩:ByteArray).data.toList=[10] from rfl,wh]at hd
 have hl:=Lib.splitB_all ⟨#[10]⟩ (by decide) 0 (s.count 10) ⟨s.toArray⟩ hc
 have hl2:(cQ s).length=s.count 10+1:=by rw[←hd,acj,hl]
 have hcs:((Lib.splitB ⟨#[10]⟩ 0 (s.count 10) ⟨s.toArray⟩).map Value.string)=(cQ s).flatMap ya:=by
  rw[←hd,List.flatMap_map]
  induction Lib.splitB ⟨#[10]⟩ 0 (s.count 10) ⟨s.toArray⟩with
  |nil=>rfl
  |cons a l ih=>rw[ac0,ach,ih];exact congrArg (·::_) (zZ a)
 rw[hc]at h2 ⊢
 rw[h2,hcs,←hl2]
 have hle:(cQ s).length≤maxLen:=by
  rw[hl2]
  have:=List.count_le_length (a:=(10:UInt8)) (l:=s)
  unfold maxLen
  omega
 exact yz (heap_alloc_new w _) (am _) iW hle
theorem Ad (s:List UInt8) (w:World) (hg:Gl w) (hs:s.length≤281474976710656):Fn Tryz.prog 164 #[ea s] w λv w'=>(∃n:Int,Lib.atoiAll s= .ok n∧v= .tuple #[.int .i64 n, .nilIface])∨((∀n,Lib.atoiAll s≠ .ok n)∧∃(n:Int) (p:Value),v= .tuple #[.int .i64 n, .iface 310 p]):=by
 obtain⟨_,⟨t1,p1,h1⟩,⟨t2,p2,h2⟩,_⟩:=hg
 cases h:Lib.atoiAll s
 case ok n=>exact⟨Calls.mono (Tryz.strconv_Atoi_ok ⟨s.toArray⟩ (show s.length≤_ by omega) n h w) λe w' ⟨e1,e2⟩=>⟨_,e1,by rcases e2 with rfl|⟨t,rfl⟩<;>first|exact dA.refl _|exact dA.bytesWorld _ _ _, .inl ⟨n,rfl,rfl⟩⟩⟩
 case range=>exact⟨Calls.mono (Tryz.strconv_Atoi_range ⟨s.toArray⟩ hs h _ w h2 (.inr ⟨_,_,rfl⟩)) λe w' ⟨b,e1,_,_,e2⟩=>⟨_,e1,e2, .inr ⟨λn e=>(by cases e),_,_,rfl⟩⟩⟩
 all_goals exact⟨Calls.mono (Tryz.strconv_Atoi_syntax ⟨s.toArray⟩ hs h _ w h1 (.inr ⟨_,_,rfl⟩)) λe w' ⟨b,e1,_,_,e2⟩=>⟨_,e1,e2, .inr ⟨λn e=>(by cases e),_,_,rfl⟩⟩⟩
theorem jl (n:Int) (w:World) (hg:Gl w) (h0: -9223372036854775808≤n) (h1:n≤9223372036854775807):Fn Tryz.prog 55 #[.int .i64 n] w λv w'=>v=ea (Lib.itoa n):=
 ⟨Calls.mono (Tryz.strconv_Itoa n h0 h1 w hg.pow) λe w' ⟨e1,k,os,e2⟩=>⟨_,e1,by rw[e2];exact(dA.drewN w k).trans (aej _ _),rfl⟩⟩
end
section
class TY (b:Bool) (p:outParam Prop):Prop where
 t:b=true→p
 f:b=false→¬p
instance (priority:=low) tst_0 (b:Bool):TY b (b=true):=⟨id,λh=>by simp[h]⟩
instance tst_1 (p:Prop) [Decidable p]:TY (decide p) p:=⟨of_decide_eq_true,of_decide_eq_false⟩
class Se (b:Bool) (p:outParam Prop):Prop where
 f:b=false→p
instance (priority:=low) tsf_0 (b:Bool):Se b (b=false):=⟨id⟩
instance tsf_1 (p:Prop) [Decidable p]:Se (decide p) (¬p):=⟨of_decide_eq_false⟩
theorem Om {p:Prop} (h:p:=by omega):p:=h
theorem Dd {p:Prop} (h:p:=by decide):p:=h
theorem Za {p:Prop} (h:p:=by repeat (first|exact dC.mask _ _ _|exact dC.refl _ _|refine adc ?_ rfl _|refine ac5 ?_ _ rfl|refine acU rfl ?_)):p:=h
theorem Zo {p:Prop} (h:p:=by first|omega|(dsimp only;omega)):p:=h
def wq (ops:Array Oper) (f:Nat→Value) (o:Oper) (n:Nat):Bool:=gi ops f o&&j7 n o.dst
def noS (ops:Array Oper) (f:Nat→Value) (o:Oper) (n:Nat):Bool:= !gi ops f o&&j7 n o.dst
theorem xe (h:wq ops f o n=true):gi ops f o=true:=(ac2.1 h).1
theorem xR (h:wq ops f o n=true):j7 n o.dst=true:=(ac2.1 h).2
theorem UF (h:noS ops f o n=true):gi ops f o=false:=by simpa using (ac2.1 h).1
theorem Vj (h:noS ops f o n=true):j7 n o.dst=true:=(ac2.1 h).2
def L9 (f:Nat→Value):Op→Option Value
 | .move x=>some (dm f x)
 | .assign x=>some (dm f x)
 | .pick c x y=>match dm f c with
  | .bool true=>some (dm f x)
  | .bool false=>some (dm f y)
  |_=>none
 |_=>none
section
variable {P:Program} {n:Nat} {ops:Array Oper} {Q:(Nat→Value)→World→Prop} {f:Nat→Value} {w:World} {rest:List Oper} {d:Option Nat} {op:Op} {ty:TypeId} {ps:String} {af:Array Edge} {g:Option (Nat×Bool)}
theorem nj (h:L9 f op=some v):(execOp (dm f) ⟨d,op,ty,ps,af,g⟩).run P w= .ok (.value v) w:=by
 unfold L9 at h
 split at h
 ·obtain rfl:=aaK h;exact jV rfl
 ·obtain rfl:=aaK h;exact FC rfl
 ·split at h
  ·obtain rfl:=aaK h;rename_i e;exact NY e rfl
  ·obtain rfl:=aaK h;rename_i e;exact Oa e rfl
  ·cases h
 ·cases h
theorem Zv (hr:(execOp (dm f) ⟨d,op,ty,ps,af,g⟩).run P w= .ok (.value v) w') (h:WL P n ops Q rest (updo f d v) w') (hk:wq ops f ⟨d,op,ty,ps,af,g⟩ n=true:=by exact rfl):
  WL P n ops Q (⟨d,op,ty,ps,af,g⟩::rest) f w:=I2 (xe hk) rfl (xR hk) hr h
theorem Zw (v:Value) (hv:L9 f op=some v) (h:WL P n ops Q rest (updo f d v) w) (hk:wq ops f ⟨d,op,ty,ps,af,g⟩ n=true:=by exact rfl):
  WL P n ops Q (⟨d,op,ty,ps,af,g⟩::rest) f w:=Zv (nj hv) h hk
theorem Zi (hv:L9 f op=some (.int k z)) (h:WL P n ops Q rest (updo f d (.int k z)) w) (hk:wq ops f ⟨d,op,ty,ps,af,g⟩ n=true:=by exact rfl):
  WL P n ops Q (⟨d,op,ty,ps,af,g⟩::rest) f w:=Zv (nj hv) h hk
theorem Zb (hv:L9 f op=some (.bool b)) (h:WL P n ops Q rest (updo f d (.bool b)) w) (hk:wq ops f ⟨d,op,ty,ps,af,g⟩ n=true:=by exact rfl):
  WL P n ops Q (⟨d,op,ty,ps,af,g⟩::rest) f w:=Zv (nj hv) h hk
theorem Zp (hv:L9 f op=some (.pointer (some ⟨b,o,none⟩))) (h:WL P n ops Q rest (updo f d (.pointer (some ⟨b,o,none⟩))) w) (hk:wq ops f ⟨d,op,ty,ps,af,g⟩ n=true:=by exact rfl):
  WL P n ops Q (⟨d,op,ty,ps,af,g⟩::rest) f w:=Zv (nj hv) h hk
theorem Zf (hx:dm f x= .pointer (some ⟨b,o,none⟩)) (hT:eb P t k=some q) (h:WL P n ops Q rest (updo f d (.pointer (some ⟨b,o+q,none⟩))) w)
  (hk:wq ops f ⟨d, .fieldAddr t x k,ty,ps,af,g⟩ n=true:=by exact rfl):WL P n ops Q (⟨d, .fieldAddr t x k,ty,ps,af,g⟩::rest) f w:=Zv (rR hx hT) h hk
theorem Zc (hx:dm f x= .pointer (some a)) (h:WL P n ops Q rest (updo f d (.pointer (some a))) w)
  (hk:wq ops f ⟨d, .nilCheck x,ty,ps,af,g⟩ n=true:=by exact rfl):WL P n ops Q (⟨d, .nilCheck x,ty,ps,af,g⟩::rest) f w:=Zv (sc hx) h hk
theorem Zl (hx:dm f x= .pointer (some ⟨b,o,none⟩)) (hT:eN P t=true) (hm:At w b c T) (hc:c[o]? =some (.int k z))
  (h:WL P n ops Q rest (updo f d (.int k z)) w) (hk:wq ops f ⟨d, .load t x,ty,ps,af,g⟩ n=true:=by exact rfl):WL P n ops Q (⟨d, .load t x,ty,ps,af,g⟩::rest) f w:=Zv (cD hx hT (At.cell hm hc)) h hk
theorem ZL (v:Value) (hx:dm f x= .pointer (some ⟨b,o,none⟩)) (hT:eN P t=true) (hm:At w b c T) (hc:c[o]? =some v)
  (h:WL P n ops Q rest (updo f d v) w) (hk:wq ops f ⟨d, .load t x,ty,ps,af,g⟩ n=true:=by exact rfl):WL P n ops Q (⟨d, .load t x,ty,ps,af,g⟩::rest) f w:=Zv (cD hx hT (At.cell hm hc)) h hk
theorem Zs (h:WL P n ops Q rest (updo f d undef) w) (hk:noS ops f ⟨d,op,ty,ps,af,g⟩ n=true:=by exact rfl):WL P n ops Q (⟨d,op,ty,ps,af,g⟩::rest) f w:=S3 (UF hk) rfl (Vj hk) h
theorem Zy (h:Yd P ⟨d,op,ty,ps,af,g⟩ f w λv w'=>WL P n ops Q rest (updo f d v) w') (hk:wq ops f ⟨d,op,ty,ps,af,g⟩ n=true:=by exact rfl):WL P n ops Q (⟨d,op,ty,ps,af,g⟩::rest) f w:=
 gU (xe hk) rfl (xR hk) h
theorem Zx {p q:Prop} [TY b p] [Se b q] (hr:(execOp (dm f) ⟨d,op,ty,ps,af,g⟩).run P w= .ok (.value (.bool b)) w) (ht:p→WL P n ops Q rest (updo f d (.bool true)) w) (hf:q→WL P n ops Q rest (updo f d (.bool false)) w)
  (hk:wq ops f ⟨d,op,ty,ps,af,g⟩ n=true:=by exact rfl):WL P n ops Q (⟨d,op,ty,ps,af,g⟩::rest) f w:=MZ (xe hk) rfl (xR hk) hr (λh=>ht (TY.t h)) (λh=>hf (Se.f h))
theorem ZZ {k:IntKind} {z:Int} (hv:L9 f op=some (.int k z)) (h:Q (updo f d (.int k z)) w) (hk:wq ops f ⟨d,op,ty,ps,af,g⟩ n=true:=by exact rfl):WL P n ops Q [⟨d,op,ty,ps,af,g⟩] f w:=Zi hv (ct h) hk
theorem ZT {Q:Exit→(Nat→Value)→World→Prop} {id:Nat} {a b:Int} {x y:Operand} {t t2:TypeId} {d2:Option Nat} {op2:Op} {ty2:TypeId} {ps2:String} {af2:Array Edge} {g2:Option (Nat×Bool)} {k:IntKind} {z:Int} (hx:dm f x= .int .i64 a) (hy:dm f y= .int .i64 b) (hv:L9 (updo f d (.int .i64 (a+b))) op2=some (.int k z)) (h:Q .normal (updo (updo f d (.int .i64 (a+b))) d2 (.int k z)) w)
  (h1: -9223372036854775808≤a+b:=by omega) (h2:a+b≤9223372036854775807:=by omega) (hk:wq [⟨d, .binOp .add t x y t2,ty,ps,af,g⟩,⟨d2,op2,ty2,ps2,af2,g2⟩].toArray f ⟨d, .binOp .add t x y t2,ty,ps,af,g⟩ n=true:=by exact rfl) (hl:wq [⟨d, .binOp .add t x y t2,ty,ps,af,g⟩,⟨d2,op2,ty2,ps2,af2,g2⟩].toArray (updo f d (.int .i64 (a+b))) ⟨d2,op2,ty2,ps2,af2,g2⟩ n=true:=by exact rfl):
  WC P n (.region id [⟨d, .binOp .add t x y t2,ty,ps,af,g⟩,⟨d2,op2,ty2,ps2,af2,g2⟩].toArray false) Q f w:=cI (Zv (d5 hx hy h1 h2) (Zi hv (ct h) hl) hk)
theorem ZX {p q:Prop} [TY b p] [Se b q] (hv:L9 f op=some (.bool b)) (ht:p→WL P n ops Q rest (updo f d (.bool true)) w) (hf:q→WL P n ops Q rest (updo f d (.bool false)) w)
  (hk:wq ops f ⟨d,op,ty,ps,af,g⟩ n=true:=by exact rfl):WL P n ops Q (⟨d,op,ty,ps,af,g⟩::rest) f w:=Zx (nj hv) ht hf hk
theorem wm {q:Nat} {tys:Array TypeId} {ao:List Operand} {vs:List Value} (hc:cY P q=true) (hv:ao.map (dm f)=vs):
  (execOp (dm f) ⟨d, .call ⟨.value (.func q),ao.toArray,tys⟩,ty,ps,af,g⟩).run P w= .ok (.enter q vs.toArray) w:=iu (first:= #[]) (cap:= #[]) rfl hc (by simp[hv])
theorem ZC {q:Nat} {tys:Array TypeId} {ao:List Operand} {vs:List Value} {Post:Value→World→Prop} (hb:cY P q=true) (hc:Fn P q vs.toArray w Post) (hv:ao.map (dm f)=vs)
  (h:∀v w',dA w w'→Post v w'→WL P n ops Q rest (updo f d v) w') (hk:wq ops f ⟨d, .call ⟨.value (.func q),ao.toArray,tys⟩,ty,ps,af,g⟩ n=true:=by exact rfl):
  WL P n ops Q (⟨d, .call ⟨.value (.func q),ao.toArray,tys⟩,ty,ps,af,g⟩::rest) f w:=oM (xe hk) rfl (xR hk) (wm hb hv) hc h
theorem ZH {q:Nat} {tys:Array TypeId} {ao:List Operand} {vs:List Value} {Post:Value→World→Prop} (hb:cY P q=true) (hc:lk P q vs.toArray w Post) (hv:ao.map (dm f)=vs)
  (h:∀v w',Post v w'→WL P n ops Q rest (updo f d v) w') (hk:wq ops f ⟨d, .call ⟨.value (.func q),ao.toArray,tys⟩,ty,ps,af,g⟩ n=true:=by exact rfl):
  WL P n ops Q (⟨d, .call ⟨.value (.func q),ao.toArray,tys⟩,ty,ps,af,g⟩::rest) f w:=mZ (xe hk) rfl (xR hk) (wm hb hv) hc h
end
section
variable {P:Program} {n:Nat} {ops:Array Oper} {Q:(Nat→Value)→World→Prop} {S:World→Prop} {f:Nat→Value} {w:World} {k:Nat} {L:Array Bool} {d:Option Nat} {op:Op} {ty:TypeId} {ps:String} {af:Array Edge} {g:Option (Nat×Bool)}
def Py (ops:Array Oper) (L:Array Bool) (i:Nat):Bool:=Region.noSelect ops&&Region.free .any ops L i&&(Region.ready .any ops L).contains i
theorem OW (h:Py ops L i=true):Region.noSelect ops=true∧Region.free .any ops L i=true∧(Region.ready .any ops L).contains i=true:=by
 unfold Py at h
 rw[so,so]at h
 exact⟨h.1.1,h.1.2,h.2⟩
theorem Tk (i:Nat) (hi:ops[i]? =some ⟨d,op,ty,ps,af,g⟩) (hv:∀w',S w'→(execOp (dm f) ⟨d,op,ty,ps,af,g⟩).run P w'= .ok (.value v) w') (hS:S w)
  (h:WT P n ops Q S k (L.setIfInBounds i true) (updo f d v) w) (hk:wq ops f ⟨d,op,ty,ps,af,g⟩ n=true:=by exact rfl) (ht:Py ops L i=true:=by kernel_rfl):WT P n ops Q S (k+1) L f w:=
 have q:=OW ht
 Du i hi q.1 q.2.1 q.2.2 (xe hk) rfl (xR hk) hv hS h
theorem Tw (i:Nat) (v:Value) (hi:ops[i]? =some ⟨d,op,ty,ps,af,g⟩) (hv:L9 f op=some v) (hS:S w)
  (h:WT P n ops Q S k (L.setIfInBounds i true) (updo f d v) w) (hk:wq ops f ⟨d,op,ty,ps,af,g⟩ n=true:=by exact rfl) (ht:Py ops L i=true:=by kernel_rfl):WT P n ops Q S (k+1) L f w:=
 Tk i hi (λ_ _=>nj hv) hS h hk ht
theorem Ti (i:Nat) (hi:ops[i]? =some ⟨d,op,ty,ps,af,g⟩) (hv:L9 f op=some (.int q z)) (hS:S w)
  (h:WT P n ops Q S k (L.setIfInBounds i true) (updo f d (.int q z)) w) (hk:wq ops f ⟨d,op,ty,ps,af,g⟩ n=true:=by exact rfl) (ht:Py ops L i=true:=by kernel_rfl):WT P n ops Q S (k+1) L f w:=
 Tk i hi (λ_ _=>nj hv) hS h hk ht
theorem Ty (i:Nat) (hi:ops[i]? =some ⟨d,op,ty,ps,af,g⟩) (hv:L9 f op=some (.bool b)) (hS:S w)
  (h:WT P n ops Q S k (L.setIfInBounds i true) (updo f d (.bool b)) w) (hk:wq ops f ⟨d,op,ty,ps,af,g⟩ n=true:=by exact rfl) (ht:Py ops L i=true:=by kernel_rfl):WT P n ops Q S (k+1) L f w:=
 Tk i hi (λ_ _=>nj hv) hS h hk ht
theorem Tq (i:Nat) (hi:ops[i]? =some ⟨d,op,ty,ps,af,g⟩) (hv:L9 f op=some (.pointer (some ⟨b,o,none⟩))) (hS:S w)
  (h:WT P n ops Q S k (L.setIfInBounds i true) (updo f d (.pointer (some ⟨b,o,none⟩))) w) (hk:wq ops f ⟨d,op,ty,ps,af,g⟩ n=true:=by exact rfl) (ht:Py ops L i=true:=by kernel_rfl):WT P n ops Q S (k+1) L f w:=
 Tk i hi (λ_ _=>nj hv) hS h hk ht
theorem Tf (i:Nat) (hi:ops[i]? =some ⟨d, .fieldAddr t x m,ty,ps,af,g⟩) (hx:dm f x= .pointer (some ⟨b,o,none⟩)) (hT:eb P t m=some q) (hS:S w)
  (h:WT P n ops Q S k (L.setIfInBounds i true) (updo f d (.pointer (some ⟨b,o+q,none⟩))) w) (hk:wq ops f ⟨d, .fieldAddr t x m,ty,ps,af,g⟩ n=true:=by exact rfl) (ht:Py ops L i=true:=by kernel_rfl):WT P n ops Q S (k+1) L f w:=
 Tk i hi (λ_ _=>rR hx hT) hS h hk ht
theorem Tc (i:Nat) (hi:ops[i]? =some ⟨d, .nilCheck x,ty,ps,af,g⟩) (hx:dm f x= .pointer (some a)) (hS:S w)
  (h:WT P n ops Q S k (L.setIfInBounds i true) (updo f d (.pointer (some a))) w) (hk:wq ops f ⟨d, .nilCheck x,ty,ps,af,g⟩ n=true:=by exact rfl) (ht:Py ops L i=true:=by kernel_rfl):WT P n ops Q S (k+1) L f w:=
 Tk i hi (λ_ _=>sc hx) hS h hk ht
theorem Tp (i:Nat) (hi:ops[i]? =some ⟨d,op,ty,ps,af,g⟩) (hS:S w) (h:WT P n ops Q S k (L.setIfInBounds i true) (updo f d undef) w) (hk:noS ops f ⟨d,op,ty,ps,af,g⟩ n=true:=by exact rfl)
  (ht:Py ops L i=true:=by kernel_rfl):WT P n ops Q S (k+1) L f w:=
 have q:=OW ht
 QV i hi q.1 q.2.1 q.2.2 (UF hk) rfl (Vj hk) hS h
theorem Tx (i:Nat) {p q:Prop} [TY b p] [Se b q] (hi:ops[i]? =some ⟨d,op,ty,ps,af,g⟩) (hv:∀w',S w'→(execOp (dm f) ⟨d,op,ty,ps,af,g⟩).run P w'= .ok (.value (.bool b)) w') (hS:S w)
  (h1:p→WT P n ops Q S k (L.setIfInBounds i true) (updo f d (.bool true)) w) (h0:q→WT P n ops Q S k (L.setIfInBounds i true) (updo f d (.bool false)) w)
  (hk:wq ops f ⟨d,op,ty,ps,af,g⟩ n=true:=by exact rfl) (ht:Py ops L i=true:=by kernel_rfl):WT P n ops Q S (k+1) L f w:=
 have q:=OW ht
 NL i hi q.1 q.2.1 q.2.2 (xe hk) rfl (xR hk) hv hS (λe=>h1 (TY.t e)) (λe=>h0 (Se.f e))
theorem To (i:Nat) (hi:ops[i]? =some ⟨d,op,ty,ps,af,g⟩) (h:Yd P ⟨d,op,ty,ps,af,g⟩ f w λv w'=>(S w'∨mH ops L i=true)∧WT P n ops Q S k (L.setIfInBounds i true) (updo f d v) w')
  (hk:wq ops f ⟨d,op,ty,ps,af,g⟩ n=true:=by exact rfl) (hr:Region.ready .any ops L=[i]:=by kernel_rfl):WT P n ops Q S (k+1) L f w:=iZ i hr hi (xe hk) rfl (xR hk) h
theorem Td (h:Q f w) (hr:Region.ready .any ops L=[]:=by kernel_rfl):WT P n ops Q S k L f w:=TF hr h
theorem TC {q:Nat} {tys:Array TypeId} {ao:List Operand} {vs:List Value} {Post K:Value→World→Prop} (hb:cY P q=true) (hc:Fn P q vs.toArray w Post) (hv:ao.map (dm f)=vs)
  (h:∀v w',dA w w'→Post v w'→K v w'):Yd P ⟨d, .call ⟨.value (.func q),ao.toArray,tys⟩,ty,ps,af,g⟩ f w K:=Yd.call (wm hb hv) hc h
theorem TG {q:Nat} {tys:Array TypeId} {ao:List Operand} {vs:List Value} {Post K:Value→World→Prop} (hb:cY P q=true) (hc:lk P q vs.toArray w Post) (hv:ao.map (dm f)=vs)
  (h:∀v w',Post v w'→K v w'):Yd P ⟨d, .call ⟨.value (.func q),ao.toArray,tys⟩,ty,ps,af,g⟩ f w K:=adV (wm hb hv) hc h
end
section
variable {P:Program} {n:Nat} {Q:Exit→(Nat→Value)→World→Prop} {f:Nat→Value} {w:World}
theorem Zq (h:WC P n x (zS (WC P n y Q) Q) f w):WC P n (.seq x y) Q f w:=by
 refine⟨λa ha=> ?_⟩
 refine wp_seq (Code.wp_mono (λe a' w' hq=> ?_) (h.out a ha))
 obtain⟨f',hr,hq⟩:=hq
 cases e with
 |normal=>exact hq.out a' hr
 |_=>exact⟨f',hr,hq⟩
theorem qD {σ:Type} (S:List Nat) (L:σ→List (Nat×Value)) (I0:World→Prop) (h0:I0 w) (I:σ→World→Prop) {x y:Code}
  (h1:∀J:(Nat→Value)→World→Prop,(∀f2 w2 s2,dC S f2 f→rt f2 (L s2)→I0 w2→I s2 w2→J f2 w2)→WC P n x (zS J Q) f w)
  (h2:∀s g w1,I0 w1→I s w1→WC P n y Q (updL (L s) (mask S f g)) w1):WC P n (.seq x y) Q f w:=
 Xk λK hK=>h1 K λf2 w2 s2 ha hl hk hi=>hK _ _ (by rw[yE ha (L s2) hl];exact h2 s2 f2 w2 hk hi)
theorem Zr {id:Nat} (h:WL P n l.toArray (λf w=>WC P n y Q f w) l f w):WC P n (.seq (.region id l.toArray false) y) Q f w:=Zq (cI h)
theorem Zd (S:World→World→Prop) {id:Nat} (h:∀w1,dA w w1→WT P n ops (λf w=>WC P n y Q f w) (S w1) ops.size (Array.replicate ops.size false) f w1) (hm:P.follows .mixedOrders=true:=by kernel_rfl):
  WC P n (.seq (.region id ops true) y) Q f w:=Zq (eR S hm h)
end
class E7 (Q:Exit→(Nat→Value)→World→Prop) (Q':outParam (Exit→(Nat→Value)→World→Prop)):Prop where
 out:∀f w,Q' .ret f w→Q .ret f w
instance retQ_then {K:(Nat→Value)→World→Prop} {Q Q':Exit→(Nat→Value)→World→Prop} [h:E7 Q Q']:E7 (zS K Q) Q':=⟨λf w q=>h.out f w q⟩
instance retQ_block {id:Nat} {Q Q':Exit→(Nat→Value)→World→Prop} [h:E7 Q Q']:E7 (uB id Q) Q':=⟨λf w q=>h.out f w q⟩
instance retQ_body {P:Program} {rs:Array ResultVar} {Post:Value→World→Prop}:E7 (mV P rs Post) (mV P rs Post):=⟨λ_ _ q=>q⟩
theorem Zt [h:E7 Q Q'] (k:Q' .ret f w):WC P n .ret Q f w:=lV (h.out f w k)
theorem ZQ {p q:Prop} [TY b p] [Se b q] (hc:dm f c= .bool b) (ht:p→WC P n x Q f w) (hf:q→WC P n y Q f w):WC P n (.cond c x y) Q f w:=
 ED hc (λh=>ht (TY.t h)) (λh=>hf (Se.f h))
section
variable {a w w':World} {b:Nat} {c:Array Value} {T:TypeId}
theorem Ze (h:Below a.heap.size a w) (k:dA w w'):Below a.heap.size a w':=cX h k (am _)
instance {a w w':World}:Kp w w' (Below a.heap.size a w) (Below a.heap.size a w'):=⟨λh k=>Ze k h⟩
theorem Zg (h:Below a.heap.size a w) (hg:w.grownBy w' (some b)) (lo:a.heap.size≤b):Below a.heap.size a w':=dg h hg (am _) (λj hj=>by cases hj;exact lo)
theorem ZG {α:Type} {enc:α→List Value} {sz:Nat} {v:Value} {l:List α} (h:Below a.heap.size a w) (hg:w.grownBy w' v.ownBlock) (k:cH enc sz T w a.heap.size v l):Below a.heap.size a w':=dg h hg (am _) (cH.lt k)
theorem ZO (e:b=w.heap.size) (h:Below N a w):a.heap.size≤b:=e▸Below.size h
theorem Zn (e:b=w.heap.size) (h:b'<w.heap.size):b'≠b:=Nat.ne_of_lt (e▸h)
end
end
section
theorem Jr:cY Tryz.prog 125=true:=by kernel_rfl
theorem Tu:cY Tryz.prog 164=true:=by kernel_rfl
theorem EO:Tryz.prog.isIface 194=true:=by kernel_rfl
theorem wD:cY Tryz.prog 55=true:=by kernel_rfl
theorem gV:d4 Tryz.prog 34=some (.agg #[.int .u8 0, .int .u8 0]):=by kernel_rfl
theorem pM:(Tryz.prog.info? 5).map (·.size)=some 1:=by kernel_rfl
theorem jR:
    (execOp (dm f) ⟨d, .build 34 #[],ty,ps,af,g⟩).run Tryz.prog w= .ok (.value (.agg #[.int .u8 0, .int .u8 0])) w:=by
  obtain⟨i0,hi0,hz0⟩:=we.1 (show (Tryz.prog.info? 34).bind (·.zero)=_ from gV)
  obtain⟨j5,hj5,hs5⟩:=an.1 pM
  simp[execOp,Instr.build,zeroValue,typeInfo,sizeOf,hi0,hz0,run_underlying Tryz.underlying34,Instr.fill,d7,hj5,hs5]
theorem dh:kn Tryz.prog 34=some 2:=by kernel_rfl
theorem fx:Tryz.prog.follows .mixedOrders=true:=by kernel_rfl
theorem fO:eb Tryz.prog 34 1=some 1:=by kernel_rfl
theorem dN:eN Tryz.prog 5=true:=by kernel_rfl
theorem ey:eb Tryz.prog 34 0=some 0:=by kernel_rfl
theorem qc (line word:List UInt8) (lo hi:Int) (w:World) (hgl:Gl w) (hl:line.length≤10000) (hwl:word.length≤10) (h0:0≤lo):
    Fn Tryz.prog 124 #[ea line,ea word, .int .i64 lo, .int .i64 hi] w λv w'=>v= .int .i64 (fJ line word lo hi):=by
 refine cK (n:=53) Tryz.func124 rfl rfl rfl λhB=> ?_
 refine Zr<|ZZ rfl<|Zr<|Zw (.string _) rfl<|Zw (.string _) rfl<|Zv (gP rfl rfl AJ)<|ZC Jr (nf _ _ _) rfl λl W5 g h=> ?_
 replace hB:=Ze hB g
 obtain rfl:=h
 refine Zw (.tuple #[.string _, .bool _]) rfl<|Zv (c7 rfl)<|Zv (da rfl)<|Zw (.string _) rfl<|Zb rfl<|ct ?_
 have htl:=Lib.trimPrefix_le line (word++[32])
 refine Zr<|Zw (.string _) rfl<|ZC Tu (Ad _ _ (Gl.below hB hgl) (by omega)) rfl λm o i b=> ?_
 replace hB:=Ze hB i
 rcases b with b|b
 obtain⟨n2_1,ha2_1,rfl⟩:=b
 refine Zw (.tuple #[.int .i64 _, .nilIface]) rfl<|Zv (c7 rfl)<|Zv (da rfl)<|Zi rfl<|Zw .nilIface rfl<|ct<|Zq ?_
 have hnb:=HT ha2_1
 have hnb1:=hnb.1
 have hnb2:=hnb.2
 refine Zr<|Zb rfl<|Zv (eK rfl)<|ZX rfl (λa=> ?_) λa=> ?_
 refine Zs<|Zs<|Zb rfl<|Zb rfl<|Zs<|Zs<|Zs<|Zb rfl<|Zb rfl<|Zs<|Zs<|Zs<|Zs<|Zb rfl ?_
 refine Zb rfl<|Zs<|Zs<|Zs<|Zb rfl<|Zb rfl<|Zs<|Zs<|Zs<|Zb rfl<|ct<|cN rfl<|Zr<|Zi rfl ?_
 refine ct<|Zt<|cZ (v:= .int .i64 _) rfl ⟨hB,?_⟩
 exact UI a
 refine Zw .nilIface rfl<|Zv (Mv rfl EO)<|Zb rfl<|Zb rfl<|Zw (.string _) rfl<|Zv (m4 rfl Tryz.underlying9)<|Zv (gQ rfl rfl)<|Zb rfl<|ZX rfl (λc=> ?_) λc=> ?_
 refine Zs<|Zs<|Zs<|Zs<|Zb rfl<|Zb rfl<|Zs<|Zs<|Zs<|Zb rfl<|Zb rfl<|Zs<|Zs<|Zs ?_
 refine Zb rfl<|ct<|cN rfl<|Zr<|ZZ rfl<|Zt<|cZ (v:= .int .i64 _) rfl ⟨hB,?_⟩
 exact Yv c
 refine Zi rfl<|ZC wD (jl _ _ (Gl.below hB hgl) pr pr) rfl λp q j k=> ?_
 replace hB:=Ze hB j
 obtain rfl:=k
 refine Zw (.string _) rfl<|Zv (Hk rfl rfl)<|Zb rfl<|ZX rfl (λd=> ?_) λd=> ?_
 refine Zs<|Zs<|Zs<|Zb rfl<|Zb rfl<|Zs<|Zs<|Zs<|Zb rfl<|ct<|cN rfl<|Zr<|ZZ rfl ?_
 refine Zt<|cZ (v:= .int .i64 _) rfl ⟨hB,?_⟩
 exact aag ha2_1 d
 refine Zi rfl<|Zi rfl<|Zv (dq rfl rfl)<|Zb rfl<|ZX rfl (λe=> ?_) λe=> ?_
 refine Zs<|Zs<|Zs<|Zb rfl<|ct<|cN rfl<|Zr<|ZZ rfl<|Zt<|cZ (v:= .int .i64 _) rfl ⟨hB,?_⟩
 exact Yi h0 a c d e
 refine Zi rfl<|Zi rfl<|Zv (gQ rfl rfl)<|Zb rfl<|ct<|ZQ rfl (λf=> ?_) λf=> ?_
 refine Zr<|ZZ rfl<|Zt<|cZ (v:= .int .i64 _) rfl ⟨hB,?_⟩
 exact Yl a c d f
 refine cx<|Zr<|Zi rfl<|ZZ rfl<|Zt<|cZ (v:= .int .i64 _) rfl ⟨hB,?_⟩
 exact aaD h0 a c d e f
 obtain⟨ha2_1,n2_1,p2_1,rfl⟩:=b
 refine Zw (.tuple #[.int .i64 _, .iface _ _]) rfl<|Zv (c7 rfl)<|Zv (da rfl)<|Zi rfl<|Zw (.iface _ _) rfl<|ct<|Zq<|Zr<|Zb rfl<|Zv (eK rfl)<|ZX rfl (λa=> ?_) λa=> ?_
 refine Zs<|Zs<|Zb rfl<|Zb rfl<|Zs<|Zs<|Zs<|Zb rfl<|Zb rfl<|Zs<|Zs<|Zs<|Zs<|Zb rfl ?_
 refine Zb rfl<|Zs<|Zs<|Zs<|Zb rfl<|Zb rfl<|Zs<|Zs<|Zs<|Zb rfl<|ct<|cN rfl<|Zr<|Zi rfl ?_
 refine ct<|Zt<|cZ (v:= .int .i64 _) rfl ⟨hB,?_⟩
 exact UI a
 refine Zw (.iface _ _) rfl<|Zv (Oq rfl EO)<|Zb rfl<|Zb rfl<|Zs<|Zs<|Zs<|Zb rfl<|Zb rfl<|Zs<|Zs<|Zs<|Zs<|Zb rfl ?_
 refine Zb rfl<|Zs<|Zs<|Zs<|Zb rfl<|Zb rfl<|Zs<|Zs<|Zs<|Zb rfl<|ct<|cN rfl<|Zr<|Zi rfl ?_
 refine ct<|Zt<|cZ (v:= .int .i64 _) rfl ⟨hB,?_⟩
 exact X7 ha2_1
theorem C7 (s:List UInt8) (w:World):
    Fn Tryz.prog 166 #[ea s] w λv w'=>v=if jw s=true then .tuple #[.agg #[.int .u8 ((ph s).m:Int), .int .u8 ((ph s).v:Int)], .int .i64 0]else .tuple #[.agg #[.int .u8 0, .int .u8 0], .int .i64 2]:=by
 refine cK (n:=44) Tryz.func166 rfl rfl rfl λhB=> ?_
 refine Zr<|Zy (cM gV rfl λC W3 D E b=> ?_)
 have f:=ZO D hB
 replace hB:=Ze hB E
 refine ZZ rfl<|Zq<|Zr<|Zw (.string _) rfl<|Zv (m4 rfl Tryz.underlying9)<|Zv (gQ rfl rfl)<|ct<|ZQ rfl (λF=> ?_) λF=> ?_
 refine Zr<|Zv (jR)<|Zy (cA rfl rfl dh rfl b rfl rfl λac G H=> ?_)
 replace hB:=Zg hB G f
 replace b:=H
 refine ZZ rfl<|Zt<|ex rfl dh b rfl (v1:= .int .i64 2) rfl ⟨hB,?_⟩
 (rw[if_neg (by rw[K1 (by omega)];decide)])
 refine cx<|Zr<|Zy (cM gV rfl λI ad t J a=> ?_)
 have g:=ZO t hB
 have d:=Zn t b.lt
 obtain⟨hB,b⟩:=J.k2 hB b
 refine ct<|Zq<|Zr<|Zw (.string _) rfl<|Zy (ET rfl Tryz.underlying9 λK ae L M N=> ?_)
 have O:=ZO L hB
 obtain⟨hB,b,a⟩:=M.k3 hB b a
 refine ct<|cy ?_
 refine cW (σ:=(Nat)) [3,3,5,6,13,42] (λi=>[]) (λi W=>(Below w.heap.size w W)∧(At W C _ 34)∧(At W I #[.int .u8 ((A8 s i:Nat):Int), .int .u8 ((Ap s i:Nat):Int)] 34)∧(rp W K s i)∧(i≤s.length)∧(∀q,q<i→kX (gg s q)=true)∧(True)) (λi=>s.length-i) (0) trivial ⟨hB,b,a,N,(me _),eO,trivial⟩ ?_
 rintro i af ag ⟨hB,b,a,hit,hi,hq,_⟩ ah h
 refine Zr ?_
 refine gU (dd:=some 13) rfl rfl rfl (Kb rfl hit (λai=> ?_) (λaj j ak P al Q k R=> ?_))
 refine Zv (rZ rfl)<|ct<|Zq<|dE rfl<|cT<|Zr<|Zv (cz rfl dh rfl a)<|Zy (cA rfl rfl dh rfl b rfl rfl λao l S=> ?_)
 replace hB:=Zg hB l f
 replace a:=At.grownNe a (Ne.symm d) l
 replace hit:=rp.grownAt hit b l
 replace b:=S
 refine ZZ rfl<|Zt<|ex rfl dh b rfl (v1:= .int .i64 0) rfl ⟨hB,?_⟩
 (have e:i=s.length:=(by omega);subst e;rw[if_pos (CZ (by omega) hq)];rfl)
 replace hB:=Zg hB k O
 replace b:=adM b hit k
 replace a:=adM a hit k
 replace hit:=R
 refine Zv (gj rfl)<|ct<|Zq<|cN rfl<|cx<|cy<|Zr<|Zv (iy rfl)<|Zv (ik rfl)<|Zi rfl<|ZZ rfl ?_
 have hmb:=y5 s i
 have hvb:=DT s i
 have hpb:=Eb (show i<8 by omega)
 refine Zr<|ZZ rfl<|cy<|Zr<|Zv (dO rfl rfl)<|Zb rfl<|ct<|ZQ rfl (λu=> ?_) λu=> ?_
 refine Zd dA λT x=> ?_
 obtain⟨hB,b,a⟩:=x.k3 hB b a
 replace hit:=x.itW hit
 have hS:=dA.refl T
 refine Tf 0 rfl rfl fO hS<|Tk 1 rfl (λ_ hq=>cD (v:= .int .u8 _) rfl dN (At.cell (hq.at a) rfl)) hS<|Ti 2 rfl rfl hS<|Tk 3 rfl (λ_ _=>jK (m:=1) rfl rfl Om (by simp only[IntKind.bits];omega) ux) hS<|Tk 4 rfl (λ_ _=>Bk (n:=_) rfl rfl rfl vl yW) hS<|Tf 5 rfl rfl fO hS<|To 6 rfl (de (v:= .int .u8 _) rfl rfl dN rfl a fF λap o U=>⟨.inr jW,?_⟩)
 replace hB:=Zg hB o g
 replace b:=At.grownNe b d o
 replace hit:=rp.grownAt hit a o
 replace a:=U
 replace a:At _ _ #[_,_] _:=a
 refine Td ?_
 refine eR dA fx (λV y=> ?_)
 obtain⟨hB,b,a⟩:=y.k3 hB b a
 replace hit:=y.itW hit
 have hS:=dA.refl V
 refine Tf 0 rfl rfl ey hS<|Tk 1 rfl (λ_ hq=>cD (v:= .int .u8 _) rfl dN (At.cell (hq.at a) rfl)) hS<|Ti 2 rfl rfl hS<|Tk 3 rfl (λ_ _=>jK (m:=1) rfl rfl Om (by simp only[IntKind.bits];omega) ux) hS<|Tk 4 rfl (λ_ _=>Bk (n:=_) rfl rfl rfl vl yW) hS<|Tf 5 rfl rfl ey hS<|To 6 rfl (de (v:= .int .u8 _) rfl rfl dN rfl a fF λaq p X=>⟨.inr jW,?_⟩)
 replace hB:=Zg hB p g
 replace b:=At.grownNe b d p
 replace hit:=rp.grownAt hit a p
 replace a:=X
 replace a:At _ _ #[_,_] _:=a
 refine Td ?_
 have hbn:(gg s i=49∨gg s i=48∨gg s i=45)∧j=i+1:=by omega
 obtain⟨c,hn⟩:=hbn
 subst hn
 refine h _ _ (i+1) ?_ ?_ ?_ ?_
 · repeat (first|exact dC.mask _ _ _|refine adc ?_ rfl _|refine ac5 ?_ _ rfl|refine acU rfl ?_)
 · exact trivial
 · exact⟨hB,b,(by (rw[←US (.inr (by omega)),←Yn (by omega)];exact a)),hit,(by omega),(dT hq (Cx c)),trivial⟩
 · omega
 refine Zr<|Zv (dO rfl rfl)<|Zb rfl<|ct<|ZQ rfl (λz=> ?_) λz=> ?_
 refine eR dA fx (λY A=> ?_)
 obtain⟨hB,b,a⟩:=A.k3 hB b a
 replace hit:=A.itW hit
 have hS:=dA.refl Y
 refine Tf 0 rfl rfl ey hS<|Tk 1 rfl (λ_ hq=>cD (v:= .int .u8 _) rfl dN (At.cell (hq.at a) rfl)) hS<|Ti 2 rfl rfl hS<|Tk 3 rfl (λ_ _=>jK (m:=1) rfl rfl Om (by simp only[IntKind.bits];omega) ux) hS<|Tk 4 rfl (λ_ _=>Bk (n:=_) rfl rfl rfl vl yW) hS<|Tf 5 rfl rfl ey hS<|To 6 rfl (de (v:= .int .u8 _) rfl rfl dN rfl a fF λar r Z=>⟨.inr jW,?_⟩)
 replace hB:=Zg hB r g
 replace b:=At.grownNe b d r
 replace hit:=rp.grownAt hit a r
 replace a:=Z
 replace a:At _ _ #[_,_] _:=a
 refine Td ?_
 have hbn:(gg s i=49∨gg s i=48∨gg s i=45)∧j=i+1:=by omega
 obtain⟨c,hn⟩:=hbn
 subst hn
 refine h _ _ (i+1) ?_ ?_ ?_ ?_
 · repeat (first|exact dC.mask _ _ _|refine adc ?_ rfl _|refine ac5 ?_ _ rfl|refine acU rfl ?_)
 · exact trivial
 · exact⟨hB,b,(by (rw[←US (.inl (by omega)),←UM (by omega)];exact a)),hit,(by omega),(dT hq (Cx c)),trivial⟩
 · omega
 refine Zr<|Zv (dO rfl rfl)<|Zb rfl<|ct<|ZQ rfl (λB=> ?_) λB=> ?_
 refine cx ?_
 have hbn:(gg s i=49∨gg s i=48∨gg s i=45)∧j=i+1:=by omega
 obtain⟨c,hn⟩:=hbn
 subst hn
 refine h _ _ (i+1) ?_ ?_ ?_ ?_
 · repeat (first|exact dC.mask _ _ _|refine adc ?_ rfl _|refine ac5 ?_ _ rfl|refine acU rfl ?_)
 · exact trivial
 · exact⟨hB,b,(by (rw[←YW (by omega),←UM (by omega)];exact a)),hit,(by omega),(dT hq (Cx c)),trivial⟩
 · omega
 refine Zr<|Zv (jR)<|Zy (cA rfl rfl dh rfl b rfl rfl λau aa ab=> ?_)
 replace hB:=Zg hB aa f
 replace b:=ab
 refine ZZ rfl<|Zt<|ex rfl dh b rfl (v1:= .int .i64 2) rfl ⟨hB,?_⟩
 (rw[if_neg (by rw[Pz P (J5 Q u z B)];decide)])
end
section
theorem Pq:cY Tryz.prog 63=true:=by kernel_rfl
theorem Nn:cY Tryz.prog 64=true:=by kernel_rfl
theorem nE:La Tryz.prog 40=some (4,1):=by kernel_rfl
theorem nk:eN Tryz.prog 38=true:=by kernel_rfl
theorem ep:d4 Tryz.prog 40=some (.agg #[.int .u64 0, .int .u64 0, .int .u64 0, .int .u64 0]):=by kernel_rfl
theorem cC:kn Tryz.prog 40=some 4:=by kernel_rfl
theorem R1:cY Tryz.prog 168=true:=by kernel_rfl
theorem DP:cY Tryz.prog 132=true:=by kernel_rfl
theorem Q0:cY Tryz.prog 133=true:=by kernel_rfl
theorem SE:cY Tryz.prog 167=true:=by kernel_rfl
theorem tz:cY Tryz.prog 127=true:=by kernel_rfl
theorem LX:(Tryz.prog.info? 38).map (·.size)=some 1:=by kernel_rfl
theorem gq:
    (execOp (dm f) ⟨d, .build 40 #[],ty,ps,af,g⟩).run Tryz.prog w= .ok (.value (.agg #[.int .u64 0, .int .u64 0, .int .u64 0, .int .u64 0])) w:=by
  obtain⟨i0,hi0,hz0⟩:=we.1 (show (Tryz.prog.info? 40).bind (·.zero)=_ from ep)
  obtain⟨j38,hj38,hs38⟩:=an.1 LX
  simp[execOp,Instr.build,zeroValue,typeInfo,sizeOf,hi0,hz0,run_underlying Tryz.underlying40,Instr.fill,d7,hj38,hs38]
theorem uW (hx:dm f x= .agg #[.int .u64 a0, .int .u64 a1, .int .u64 a2, .int .u64 a3]) (hy:dm f y= .agg #[.int .u64 b0, .int .u64 b1, .int .u64 b2, .int .u64 b3]):
    (execOp (dm f) ⟨d, .binOp .eql 40 x y t2,ty,ps,af,g⟩).run Tryz.prog w= .ok (.value (.bool (decide ((a0=b0∧a1=b1∧a2=b2∧a3=b3))))) w:=by
  have hg:Tryz.prog.eqGuardType Tryz.prog.depth 40=false:=by kernel_rfl
  have ha:=m6 (P:=Tryz.prog) w 9999 4 40 38 #[.int .u64 a0, .int .u64 a1, .int .u64 a2, .int .u64 a3] #[.int .u64 b0, .int .u64 b1, .int .u64 b2, .int .u64 b3]
    (λi=> .int .u64 ([a0,a1,a2,a3].getD i 0)) (λi=> .int .u64 ([b0,b1,b2,b3].getD i 0)) (λi=>[a0,a1,a2,a3].getD i 0==[b0,b1,b2,b3].getD i 0) Tryz.underlying40 jW (by simp[isAgg,run_underlying Tryz.underlying38])
    (λi hi=>by
      have:i=0∨i=1∨i=2∨i=3:=by omega
      rcases this with rfl|rfl|rfl|rfl<;>rfl)
    (λi hi=>by
      have:i=0∨i=1∨i=2∨i=3:=by omega
      rcases this with rfl|rfl|rfl|rfl<;>rfl)
    (λi hi=>run_equalIn_int w 9998 38 .u64 .u64 _ _ Tryz.underlying38)
  simp only[execOp,hx,hy,Sem.run_bind,run_eqGuard_agg _ _ _ _ _ _ _ hg,Result.andThen_ok,run_eql_struct,ha]
  simp[List.range,List.range.loop]
  by_cases q0:a0=b0<;>by_cases q1:a1=b1<;>by_cases q2:a2=b2<;>by_cases q3:a3=b3<;>simp[q0,q1,q2,q3]
theorem yY:cY Tryz.prog 61=true:=by kernel_rfl
theorem Nr:cY Tryz.prog 20=true:=by kernel_rfl
theorem cV:fj Tryz.prog 35=some (3,1,8):=by kernel_rfl
theorem eP:(d4 Tryz.prog 3).map (λz=>z.cells.size)=some 1:=by kernel_rfl
theorem uP:cY Tryz.prog 180=true:=by kernel_rfl
theorem cR:eN Tryz.prog 3=true:=by kernel_rfl
theorem CB (p:Int) (w:World):
    Fn Tryz.prog 63 #[.int .i64 p] w λv w'=>v= .bool (oF p):=by
 refine cK (n:=9) Tryz.func63 rfl rfl rfl λhB=> ?_
 refine Zr<|Zb rfl<|ct<|Zr<|Zi rfl<|Zv (ky rfl rfl)<|ZX rfl (λa=> ?_) λa=> ?_
 refine Zi rfl<|Zv (dq rfl rfl)<|Zb rfl<|Zb rfl<|ct<|Zt<|cZ (v:= .bool _) rfl ⟨hB,?_⟩
 simp[oF];omega
 refine Zs<|Zs<|Zb rfl<|Zb rfl<|ct<|Zt<|cZ (v:= .bool false) rfl ⟨hB,?_⟩
 simp[oF];omega
theorem GF (p:Int) (w:World) (h0:0≤p) (h1:p<256):
    Fn Tryz.prog 64 #[.int .i64 p] w λv w'=>v= .tuple #[.int .i64 ((p.toNat/64:Nat):Int), .int .u64 ((2^(p.toNat%64):Nat):Int)]:=by
 refine cK (n:=9) Tryz.func64 rfl rfl rfl λhB=> ?_
 obtain⟨q,rfl⟩:=ab2 h0
 have hq:q<256:=by omega
 refine Zr<|Zi rfl<|ZZ rfl<|Zd dA λW5 a=> ?_
 replace hB:=Ze hB a
 have hS:=dA.refl W5
 refine Ti 0 rfl rfl hS<|Tk 1 rfl (λ_ _=>Hv (n:=64) rfl rfl rfl Om vl) hS<|Ti 2 rfl rfl hS<|Tk 3 rfl (λ_ _=>H6 (n:=64) rfl rfl rfl Om) hS<|Tk 4 rfl (λ_ _=>jK (m:=1) rfl rfl Om (by simp only[IntKind.bits];omega) ux) hS<|Ti 5 rfl rfl hS<|Ti 6 rfl rfl hS<|Td<|Zt<|dH (v:= .int .i64 _) rfl (v1:= .int .u64 _) rfl ⟨hB,?_⟩
 have e:((q:Int)%64).toNat=q%64:=by omega
 simp[e]
theorem Ca (s:Nat) (p:Int) (w:World):
    Fn Tryz.prog 20 #[el s, .int .i64 p] w λv w'=>v= .bool (Ez s p):=by
 refine cK (n:=21) Tryz.func20 rfl rfl rfl λhB=> ?_
 refine Zr<|Zy (du (c:= #[_,_,_,_]) rfl rfl λi W3 j d b=> ?_)
 replace hB:=Ze hB d
 refine Zb rfl<|ct<|Zq<|Zr<|Zi rfl<|ZC Pq (CB _ _) rfl λk l e f=> ?_
 obtain⟨hB,b⟩:=e.k2 hB b
 obtain rfl:=f
 refine Zv (eK rfl)<|ct<|ZQ rfl (λa=> ?_) λa=> ?_
 refine Zr<|Zb rfl<|ct<|Zt<|cZ (v:= .bool false) rfl ⟨hB,?_⟩
 (simp at a;simp[Ez,a])
 refine cx<|Zr<|Zi rfl<|ZC Nn (GF _ _ (by simp[oF]at a;omega) (by simp[oF]at a;omega)) rfl λm o g h=> ?_
 obtain⟨hB,b⟩:=g.k2 hB b
 obtain rfl:=h
 obtain⟨q,rfl⟩:=ab2 (show 0≤p by simp[oF]at a;omega)
 have hq:q<256:=by simp[oF]at a;omega
 simp only[my]
 refine Zw (.tuple #[.int .i64 _, .int .u64 _]) rfl<|Zv (c7 rfl)<|Zv (da rfl)<|Zi rfl<|ZZ rfl<|Zr<|Zi rfl<|Zv (ff rfl rfl nE Om Om)<|Zv (cD (v:=wv s _) rfl nk (At.cell b (pI s _ Om)))<|Zi rfl<|Zv (nh (n:=_) rfl rfl rfl (by exact IJ _ _) (by rw[←abJ (2^_)];exact Wy _ _ YL))<|Zv (gQ rfl rfl)<|Zb rfl ?_
 refine ct<|Zt<|cZ (v:= .bool _) rfl ⟨hB,?_⟩
 exact congrArg Value.bool (Ll hq)
theorem oq (s:Nat) (p:Int) (w:World):
    Fn Tryz.prog 61 #[el s, .int .i64 p] w λv w'=>v=el (mT s p):=by
 refine cK (n:=21) Tryz.func61 rfl rfl rfl λhB=> ?_
 refine Zr<|Zy (du (c:= #[_,_,_,_]) rfl rfl λC W3 h i b=> ?_)
 have j:=ZO h hB
 replace hB:=Ze hB i
 refine Zy (cM ep rfl λk W6 e l a=> ?_)
 have f:=ZO e hB
 have m:=Zn e b.lt
 obtain⟨hB,b⟩:=l.k2 hB b
 replace a:At W6 k #[wv 0 0,wv 0 1,wv 0 2,wv 0 3] 40:=a
 refine ct<|Zq<|Zr<|Zi rfl<|ZC Pq (CB _ _) rfl λD E o r=> ?_
 obtain⟨hB,b,a⟩:=o.k3 hB b a
 obtain rfl:=r
 refine ct<|ZQ rfl (λd=> ?_) λd=> ?_
 refine Zr<|Zi rfl<|ZC Nn (GF _ _ (by simp[oF]at d;omega) (by simp[oF]at d;omega)) rfl λF G t u=> ?_
 obtain⟨hB,b,a⟩:=t.k3 hB b a
 obtain rfl:=u
 obtain⟨q,rfl⟩:=ab2 (show 0≤p by simp[oF]at d;omega)
 have hq:q<256:=by simp[oF]at d;omega
 simp only[my]
 refine Zw (.tuple #[.int .i64 _, .int .u64 _]) rfl<|Zv (c7 rfl)<|Zv (da rfl)<|Zi rfl<|ZZ rfl<|cI<|Zi rfl<|Zv (ff rfl rfl nE Om Om)<|Zv (cD (v:=wv s _) rfl nk (At.cell b (pI s _ Om)))<|Zi rfl<|Zv (Bk (n:=_) rfl rfl rfl (by exact IJ _ _) (by rw[←abJ (2^_)];exact Wy _ _ YL))<|Zv (ff rfl rfl nE Om Om)<|Zy (de (v:= .int .u64 _) rfl rfl nk rfl b ix λH g x=> ?_)
 replace hB:=Zg hB g j
 replace a:=At.grownNe a (Ne.symm m) g
 replace b:=x
 rw[EV (s':=mT s q) (by omega) (Hf hq)]at b
 refine ct<|Zr<|Zv (cz rfl cC rfl b)<|Zy (cA rfl rfl cC rfl a rfl rfl λI y z=> ?_)
 replace hB:=Zg hB y f
 replace a:=z
 refine ct<|Zt<|jp rfl cC a rfl ⟨hB,?_⟩
 rfl
 refine cx<|Zr<|Zv (cz rfl cC rfl b)<|Zy (cA rfl rfl cC rfl a rfl rfl λJ A B=> ?_)
 replace hB:=Zg hB A f
 replace a:=B
 refine ct<|Zt<|jp rfl cC a rfl ⟨hB,?_⟩
 (simp[mT,d])
theorem ub (s t q:Nat) (op:Nat→Nat→Nat) (w:World) (hq:cY Tryz.prog q=true) (hdo:∀(x y:Nat) (w:World),x<18446744073709551616→y<18446744073709551616→Fn Tryz.prog q #[.int .u64 (x:Int), .int .u64 (y:Int)] w λv w'=>v= .int .u64 ((op x y:Nat):Int)):
    Fn Tryz.prog 132 #[el s,el t, .func (.func q) #[] #[]] w λv w'=>v= .agg (Ho op s t 4):=by
 refine cK (n:=24) Tryz.func132 rfl rfl rfl λhB=> ?_
 refine Zr<|Zy (du (c:= #[_,_,_,_]) rfl rfl λo W3 O p a=> ?_)
 replace hB:=Ze hB p
 refine Zy (du (c:= #[_,_,_,_]) rfl rfl λr W6 P u d=> ?_)
 obtain⟨hB,a⟩:=u.k2 hB a
 refine Zy (cM ep rfl λi W9 z A b=> ?_)
 have B:=ZO z hB
 obtain⟨hB,a,d⟩:=A.k3 hB a d
 replace b:At W9 i #[wv 0 0,wv 0 1,wv 0 2,wv 0 3] 40:=b
 refine ct<|Zr<|Zy (cM ep rfl λj C f D e=> ?_)
 have E:=ZO f hB
 have F:=Zn f a.lt
 have G:=Zn f d.lt
 have l:=Zn f b.lt
 obtain⟨hB,a,d,b⟩:=D.k4 hB a d b
 replace e:At C j #[wv 0 0,wv 0 1,wv 0 2,wv 0 3] 40:=e
 refine ct<|Zq<|Zr<|ZZ rfl<|cy ?_
 refine cW (σ:=(Nat)) [8,22] (λk=>[(9, .int .i64 (k:Int))]) (λk W=>(Below w.heap.size w W)∧(At W o _ 40)∧(At W r _ 40)∧(At W i _ 40)∧(At W j (Ho op s t k) 40)∧(k≤4)∧(True)) (λk=>4-k) (0) ⟨rfl,trivial⟩ ⟨hB,a,d,b,e,Om,trivial⟩ ?_
 rintro k Q R ⟨hB,a,d,b,e,hk,_⟩ S H
 refine Zr<|Zv (dq rfl rfl)<|ct<|Zq<|ZQ rfl (λI=> ?_) λI=> ?_
 refine cx<|Zq<|cy<|Zr<|Zi rfl<|ZZ rfl ?_
 refine eR dA fx (λJ K=> ?_)
 obtain⟨hB,a,d,b,e⟩:=K.k5 hB a d b e
 have hS:=dA.refl J
 refine Ti 0 rfl rfl hS<|Tw 1 (.func (.func q) #[] #[]) rfl rfl hS<|Ti 2 rfl rfl hS<|Tk 3 rfl (λ_ _=>ff rfl rfl nE Om Om) hS<|Tk 4 rfl (λ_ hq=>cD (v:= .int .u64 _) rfl nk (At.cell (hq.at a) (pI s k Om))) hS<|Ti 5 rfl rfl hS<|Tk 6 rfl (λ_ _=>ff rfl rfl nE Om Om) hS<|Tk 7 rfl (λ_ hq=>cD (v:= .int .u64 _) rfl nk (At.cell (hq.at d) (pI t k Om))) hS<|To 8 rfl (Yd.call (yX (q:=q) rfl hq (v0:= .int .u64 _) rfl (v1:= .int .u64 _) rfl) (hdo _ _ _ (xB _ _) (xB _ _)) λT U h L=>⟨.inl (hS.trans h),?_⟩)
 obtain⟨hB,a,d,b,e⟩:=h.k5 hB a d b e
 replace hS:=hS.trans h
 obtain rfl:=L
 refine Tk 9 rfl (λ_ _=>ff rfl rfl nE Om Om) hS<|To 10 rfl (de (v:= .int .u64 _) rfl rfl nk rfl e (by simp[LI];omega) λV g M=>⟨.inr jW,?_⟩)
 replace hB:=Zg hB g E
 replace a:=At.grownNe a F g
 replace d:=At.grownNe d G g
 replace b:=At.grownNe b l g
 replace e:=M
 rw[N0 op s t k (by omega)]at e
 refine Td<|ZT rfl rfl rfl ?_
 exact H _ _ (k+1) Za ⟨rfl,trivial⟩ ⟨hB,a,d,b,e,Om,trivial⟩ Zo
 refine cT<|Zr<|Zv (cz rfl cC rfl e)<|Zy (cA rfl rfl cC rfl b rfl rfl λX m N=> ?_)
 replace hB:=Zg hB m B
 replace e:=At.grownNe e (Ne.symm l) m
 replace b:=N
 refine ct<|Zt<|jp rfl cC b rfl ⟨hB,?_⟩
 obtain rfl:k=4:=by omega
 rfl
theorem HB (x y:Nat) (w:World) (hx:x<18446744073709551616) (hy:y<18446744073709551616):
    Fn Tryz.prog 168 #[.int .u64 (x:Int), .int .u64 (y:Int)] w λv w'=>v= .int .u64 ((x ||| y:Nat):Int):=by
 refine cK (n:=8) Tryz.func168 rfl rfl rfl λhB=> ?_
 refine Zr<|ZZ rfl<|Zr<|Zi rfl<|Zi rfl<|Zv (Bk (n:=_) rfl rfl rfl pr pr)<|ZZ rfl<|Zt<|cZ (v:= .int .u64 _) rfl ⟨hB,?_⟩
 rfl
theorem pC (s t:Nat) (w:World):
    Fn Tryz.prog 131 #[el s,el t] w λv w'=>v=el (s ||| t):=by
 refine cK (n:=8) Tryz.func131 rfl rfl rfl λhB=> ?_
 refine Zr<|Zy (du (c:= #[_,_,_,_]) rfl rfl λq W3 u f b=> ?_)
 replace hB:=Ze hB f
 refine Zy (du (c:= #[_,_,_,_]) rfl rfl λz W6 A g d=> ?_)
 obtain⟨hB,b⟩:=g.k2 hB b
 refine Zy (cM ep rfl λh W9 i k a=> ?_)
 have l:=ZO i hB
 obtain⟨hB,b,d⟩:=k.k3 hB b d
 replace a:At W9 h #[wv 0 0,wv 0 1,wv 0 2,wv 0 3] 40:=a
 refine ct<|Zr<|Zv (cz rfl cC rfl b)<|Zv (cz rfl cC rfl d)<|ZC (vs:=[.agg #[_,_,_,_], .agg #[_,_,_,_], .func (.func 168) #[] #[]]) DP (ub s t 168 (λx y=>x ||| y) _ R1 (λx y w hx hy=>HB x y w hx hy)) rfl λB C m e=> ?_
 obtain⟨hB,a⟩:=m.k2 hB a
 rw[zF (r:=s ||| t) (λj=>UW s t j)]at e
 obtain rfl:=e
 refine Zy (cA rfl rfl cC rfl a rfl rfl λD o p=> ?_)
 replace hB:=Zg hB o l
 replace a:=p
 refine ct<|Zt<|jp rfl cC a rfl ⟨hB,?_⟩
 rfl
theorem G5 (x y:Nat) (w:World) (hx:x<18446744073709551616) (hy:y<18446744073709551616):
    Fn Tryz.prog 133 #[.int .u64 (x:Int), .int .u64 (y:Int)] w λv w'=>v= .int .u64 ((x &&& y:Nat):Int):=by
 refine cK (n:=8) Tryz.func133 rfl rfl rfl λhB=> ?_
 refine Zr<|ZZ rfl<|Zr<|Zi rfl<|Zi rfl<|Zv (nh (n:=_) rfl rfl rfl pr pr)<|ZZ rfl<|Zt<|cZ (v:= .int .u64 _) rfl ⟨hB,?_⟩
 rfl
theorem pH (s t:Nat) (w:World):
    Fn Tryz.prog 83 #[el s,el t] w λv w'=>v=el (s &&& t):=by
 refine cK (n:=8) Tryz.func83 rfl rfl rfl λhB=> ?_
 refine Zr<|Zy (du (c:= #[_,_,_,_]) rfl rfl λq W3 u f b=> ?_)
 replace hB:=Ze hB f
 refine Zy (du (c:= #[_,_,_,_]) rfl rfl λz W6 A g d=> ?_)
 obtain⟨hB,b⟩:=g.k2 hB b
 refine Zy (cM ep rfl λh W9 i k a=> ?_)
 have l:=ZO i hB
 obtain⟨hB,b,d⟩:=k.k3 hB b d
 replace a:At W9 h #[wv 0 0,wv 0 1,wv 0 2,wv 0 3] 40:=a
 refine ct<|Zr<|Zv (cz rfl cC rfl b)<|Zv (cz rfl cC rfl d)<|ZC (vs:=[.agg #[_,_,_,_], .agg #[_,_,_,_], .func (.func 133) #[] #[]]) DP (ub s t 133 (λx y=>x &&& y) _ Q0 (λx y w hx hy=>G5 x y w hx hy)) rfl λB C m e=> ?_
 obtain⟨hB,a⟩:=m.k2 hB a
 rw[zF (r:=s &&& t) (λj=>Ws s t j)]at e
 obtain rfl:=e
 refine Zy (cA rfl rfl cC rfl a rfl rfl λD o p=> ?_)
 replace hB:=Zg hB o l
 replace a:=p
 refine ct<|Zt<|jp rfl cC a rfl ⟨hB,?_⟩
 rfl
theorem DO (x y:Nat) (w:World) (hx:x<18446744073709551616) (hy:y<18446744073709551616):
    Fn Tryz.prog 167 #[.int .u64 (x:Int), .int .u64 (y:Int)] w λv w'=>v= .int .u64 ((andNot x y:Nat):Int):=by
 refine cK (n:=8) Tryz.func167 rfl rfl rfl λhB=> ?_
 refine Zr<|ZZ rfl<|Zr<|Zi rfl<|Zi rfl<|Zv (rK (n:=_) rfl rfl rfl pr pr)<|ZZ rfl<|Zt<|cZ (v:= .int .u64 _) rfl ⟨hB,?_⟩
 rfl
theorem mr (s t:Nat) (w:World):
    Fn Tryz.prog 127 #[el s,el t] w λv w'=>v=el (andNot s t):=by
 refine cK (n:=8) Tryz.func127 rfl rfl rfl λhB=> ?_
 refine Zr<|Zy (du (c:= #[_,_,_,_]) rfl rfl λq W3 u f b=> ?_)
 replace hB:=Ze hB f
 refine Zy (du (c:= #[_,_,_,_]) rfl rfl λz W6 A g d=> ?_)
 obtain⟨hB,b⟩:=g.k2 hB b
 refine Zy (cM ep rfl λh W9 i k a=> ?_)
 have l:=ZO i hB
 obtain⟨hB,b,d⟩:=k.k3 hB b d
 replace a:At W9 h #[wv 0 0,wv 0 1,wv 0 2,wv 0 3] 40:=a
 refine ct<|Zr<|Zv (cz rfl cC rfl b)<|Zv (cz rfl cC rfl d)<|ZC (vs:=[.agg #[_,_,_,_], .agg #[_,_,_,_], .func (.func 167) #[] #[]]) DP (ub s t 167 (λx y=>andNot x y) _ SE (λx y w hx hy=>DO x y w hx hy)) rfl λB C m e=> ?_
 obtain⟨hB,a⟩:=m.k2 hB a
 rw[zF (r:=andNot s t) (λj=>L3 s t j)]at e
 obtain rfl:=e
 refine Zy (cA rfl rfl cC rfl a rfl rfl λD o p=> ?_)
 replace hB:=Zg hB o l
 replace a:=p
 refine ct<|Zt<|jp rfl cC a rfl ⟨hB,?_⟩
 rfl
theorem gS (s t:Nat) (w:World):
    Fn Tryz.prog 79 #[el s,el t] w λv w'=>v= .bool (dW s t):=by
 refine cK (n:=10) Tryz.func79 rfl rfl rfl λhB=> ?_
 refine Zr<|Zy (du (c:= #[_,_,_,_]) rfl rfl λh W3 i b a=> ?_)
 replace hB:=Ze hB b
 refine Zy (du (c:= #[_,_,_,_]) rfl rfl λj W6 k d e=> ?_)
 obtain⟨hB,a⟩:=d.k2 hB a
 refine Zb rfl<|ct<|Zr<|Zv (cz rfl cC rfl a)<|Zv (cz rfl cC rfl e)<|ZC (vs:=[.agg #[_,_,_,_], .agg #[_,_,_,_]]) tz (mr _ _ _) rfl λl m f g=> ?_
 replace hB:=Ze hB f
 obtain rfl:=g
 refine Zv (v:=el 0) (gq)<|Zv (uW rfl rfl)<|Zb rfl<|ct<|Zt<|cZ (v:= .bool _) rfl ⟨hB,?_⟩
 simp[dW,SQ]
theorem nQ (n:Int) (w:World):
    Fn Tryz.prog 80 #[.int .i64 n] w λv w'=>v=if 0≤n∧n≤8 then .tuple #[el (fk n.toNat), .int .i64 0]else .tuple #[el 0, .int .i64 1]:=by
 refine cK (n:=23) Tryz.func80 rfl rfl rfl λhB=> ?_
 refine Zr<|Zy (cM ep rfl λe W3 l o a=> ?_)
 have d:=ZO l hB
 replace hB:=Ze hB o
 replace a:At W3 e #[wv 0 0,wv 0 1,wv 0 2,wv 0 3] 40:=a
 refine ZZ rfl<|Zq<|Zr<|Zi rfl<|Zv (dq rfl rfl)<|ZX rfl (λp=> ?_) λp=> ?_
 refine Zs<|Zs<|Zb rfl<|ct<|cN rfl<|Zr<|Zv (v:=el 0) (gq)<|Zy (cA rfl rfl cC rfl a rfl rfl λF q r=> ?_)
 replace hB:=Zg hB q d
 replace a:=r
 refine ZZ rfl<|Zt<|ex rfl cC a rfl (v1:= .int .i64 1) rfl ⟨hB,?_⟩
 rw[if_neg (by omega)]
 refine Zi rfl<|Zv (gQ rfl rfl)<|Zb rfl<|ct<|ZQ rfl (λs=> ?_) λs=> ?_
 refine Zr<|Zv (v:=el 0) (gq)<|Zy (cA rfl rfl cC rfl a rfl rfl λG t u=> ?_)
 replace hB:=Zg hB t d
 replace a:=u
 refine ZZ rfl<|Zt<|ex rfl cC a rfl (v1:= .int .i64 1) rfl ⟨hB,?_⟩
 rw[if_neg (by omega)]
 refine cx ?_
 have hn:0≤n∧n≤8:=by omega
 refine Zr<|Zy (cM ep rfl λf x g y b=> ?_)
 have z:=ZO g hB
 have h:=Zn g a.lt
 obtain⟨hB,a⟩:=y.k2 hB a
 replace b:At x f #[wv 0 0,wv 0 1,wv 0 2,wv 0 3] 40:=b
 refine ct<|Zq ?_
 have hp:=fm hn.2
 refine Zr<|Zi rfl<|Zv (jK (m:=1) rfl rfl Om (by simp only[IntKind.bits];omega) ux)<|ZZ rfl<|cy ?_
 refine cW (σ:=(Nat)) [5,5,15,21] (λk=>[(15, .int .i64 (k:Int))]) (λk W=>(Below w.heap.size w W)∧(At W e _ 40)∧(At W f #[wv (r7 k) 0,wv (r7 k) 1,wv (r7 k) 2,wv (r7 k) 3] 40)∧(k≤2^n.toNat)∧(True)) (λk=>2^n.toNat-k) (0) ⟨rfl,trivial⟩ ⟨hB,a,b,(me _),trivial⟩ ?_
 rintro k H I ⟨hB,a,b,hk,_⟩ J A
 refine Zr<|Zv (dq rfl rfl)<|ct<|Zq<|ZQ rfl (λc=> ?_) λc=> ?_
 refine cx<|Zq<|cy<|Zr<|Zi rfl<|ZZ rfl<|cI<|Zv (cz rfl cC rfl b)<|Zi rfl<|ZC (vs:=[.agg #[_,_,_,_], .int .i64 _]) yY (oq _ _ _) rfl λK L B C=> ?_
 obtain⟨hB,a,b⟩:=B.k3 hB a b
 obtain rfl:=C
 rw[D6 (by simp only[abJ]at c;omega)]
 refine Zy (cA rfl rfl cC rfl b rfl rfl λM i D=> ?_)
 replace hB:=Zg hB i z
 replace a:=At.grownNe a h i
 replace b:=D
 refine ct<|ZT rfl rfl rfl ?_
 exact A _ _ (k+1) Za ⟨rfl,trivial⟩ ⟨hB,a,b,(by simp only[abJ]at c;omega),trivial⟩ (by simp only[abJ]at c;omega)
 refine cT<|Zr<|Zv (cz rfl cC rfl b)<|Zy (cA rfl rfl cC rfl a rfl rfl λN j E=> ?_)
 replace hB:=Zg hB j d
 replace b:=At.grownNe b (Ne.symm h) j
 replace a:=E
 refine ZZ rfl<|Zt<|ex rfl cC a rfl (v1:= .int .i64 0) rfl ⟨hB,?_⟩
 obtain rfl:k=2^n.toNat:=by simp only[abJ]at c;omega
 rw[if_pos hn];rfl
theorem n4 (s:Nat) (w:World):
    Fn Tryz.prog 180 #[el s] w λv w'=>cH dX 1 3 w' w.heap.size v (ej s):=by
 refine cK (n:=17) Tryz.func180 rfl rfl rfl λhB=> ?_
 refine Zr<|Zy (du (c:= #[_,_,_,_]) rfl rfl λl W3 y m a=> ?_)
 replace hB:=Ze hB m
 refine Zw (.slice none 0 0) rfl<|ct<|Zr<|Zw (.slice none 0 0) rfl<|ct<|Zq<|Zr<|ZZ rfl<|cy ?_
 refine cW (σ:=(Nat)×(Value)) [3,15] (λ(k,v0)=>[(5, .int .i64 (k:Int)),(3,v0)]) (λsg W=>match sg with|(k,v0)=>(Below w.heap.size w W)∧(At W l _ 40)∧(cH dX 1 3 W w.heap.size v0 (uc s k))∧(k≤256)∧(True)) (λ(k,v0)=>256-k) ((0, .slice none 0 0)) ⟨rfl,rfl,trivial⟩ ⟨hB,a,cH.nil,Om,trivial⟩ ?_
 rintro⟨k,v0⟩ z A ⟨hB,a,ho,hk,_⟩ B f
 refine Zr<|Zv (dq rfl rfl)<|ct<|Zq<|ZQ rfl (λo=> ?_) λo=> ?_
 refine cx<|Zq<|cy<|Zr<|Zi rfl<|ZZ rfl<|Zr<|Zv (cz rfl cC rfl a)<|Zi rfl<|ZC (vs:=[.agg #[_,_,_,_], .int .i64 _]) Nr (Ca _ _ _) rfl λC D p q=> ?_
 obtain⟨hB,a,ho⟩:=p.k3 hB a ho
 obtain rfl:=q
 refine ct<|ZQ rfl (λd=> ?_) λd=> ?_
 refine cI<|Zw v0 rfl<|Zi rfl<|Zy (ez (u:= .int .i64 _) rfl cV eP rfl Dd Dd λg E h r t=> ?_)
 have F:=ZO h hB
 have G:=acm (b:=g) ho (aaR h.symm)
 obtain⟨hB,a,ho⟩:=r.k3 hB a ho
 refine Zy (dP (v:=v0) (v2:= .slice (some ⟨g,0,none⟩) 1 1) rfl rfl cV eP Dd ho (eJ t rfl) rfl (m3 hB) (by have:=ug s k;omega) (by have:=ug s k;omega) λi H j e=> ?_)
 replace e:=cH.snoc (enc:=dX) (x:=_) rfl rfl rfl rfl e
 replace hB:=ZG hB j ho
 replace a:=At.grownOw a ho j Dd
 refine Zw i rfl<|ct<|ZT rfl rfl rfl ?_
 rw[zQ (by omega)]at d
 exact f _ _ ((k+1,i)) Za ⟨rfl,rfl,trivial⟩ ⟨hB,a,(by (rw[xt,if_pos d];exact e)),Om,trivial⟩ YS
 refine cx<|ZT rfl rfl rfl ?_
 rw[zQ (by omega)]at d
 exact f _ _ ((k+1,v0)) Za ⟨rfl,rfl,trivial⟩ ⟨hB,a,(by (rw[xt,if_neg (by rw[d];decide)];exact ho)),Om,trivial⟩ YS
 refine cT<|Zr<|Zw v0 rfl<|Zw v0 rfl<|ct<|Zt<|cZ (v:=v0) rfl ⟨hB,?_⟩
 obtain rfl:k=256:=by omega
 exact ho
theorem Aa (s:Nat) (i:Int) (one:Bool) (w:World):
    Fn Tryz.prog 155 #[el s, .int .i64 i, .bool one] w λv w'=>v=el (if 0≤i∧i<8 then qX s i.toNat one else 0):=by
 refine cK (n:=36) Tryz.func155 rfl rfl rfl λhB=> ?_
 refine Zr<|Zy (du (c:= #[_,_,_,_]) rfl rfl λx W3 T y d=> ?_)
 replace hB:=Ze hB y
 refine Zy (cM ep rfl λo W6 z A a=> ?_)
 have h:=ZO z hB
 obtain⟨hB,d⟩:=A.k2 hB d
 replace a:At W6 o #[wv 0 0,wv 0 1,wv 0 2,wv 0 3] 40:=a
 refine ct<|Zr<|Zy (cM ep rfl λq B j C b=> ?_)
 have D:=ZO j hB
 have E:=Zn j d.lt
 have r:=Zn j a.lt
 obtain⟨hB,d,a⟩:=C.k3 hB d a
 replace b:At B q #[wv 0 0,wv 0 1,wv 0 2,wv 0 3] 40:=b
 refine ct<|Zq<|Zr<|Zi rfl<|Zv (dq rfl rfl)<|ZX rfl (λF=> ?_) λF=> ?_
 refine Zs<|Zs<|Zb rfl<|ct<|cN rfl<|Zr<|Zv (cz rfl cC rfl b)<|Zy (cA rfl rfl cC rfl a rfl rfl λU G H=> ?_)
 replace hB:=Zg hB G h
 replace a:=H
 refine ct<|Zt<|jp rfl cC a rfl ⟨hB,?_⟩
 rw[if_neg (by omega)]
 refine Zi rfl<|Zv (ky rfl rfl)<|Zb rfl<|ct<|ZQ rfl (λI=> ?_) λI=> ?_
 refine Zr<|Zv (cz rfl cC rfl b)<|Zy (cA rfl rfl cC rfl a rfl rfl λV J K=> ?_)
 replace hB:=Zg hB J h
 replace a:=K
 refine ct<|Zt<|jp rfl cC a rfl ⟨hB,?_⟩
 rw[if_neg (by omega)]
 refine cx<|Zq ?_
 have hi:0≤i∧i<8:=by omega
 have hl:=mv s
 refine Zr<|Zv (cz rfl cC rfl d)<|ZC (vs:=[.agg #[_,_,_,_]]) uP (n4 _ _) rfl λl X L e=> ?_
 have M:=(Below.size hB)
 obtain⟨hB,d,a,b⟩:=L.k4 hB d a b
 replace e:=cH.mono e M
 refine Zv (db (v:=l) rfl e.sl cV)<|ZZ rfl<|cy ?_
 refine cW (σ:=(Nat)) [9,9,20,34] (λk=>[(20, .int .i64 (k:Int))]) (λk W=>(Below w.heap.size w W)∧(At W x _ 40)∧(At W o _ 40)∧(cH dX 1 3 W w.heap.size l _)∧(At W q #[wv (pg (ej s) i.toNat one k) 0,wv (pg (ej s) i.toNat one k) 1,wv (pg (ej s) i.toNat one k) 2,wv (pg (ej s) i.toNat one k) 3] 40)∧(k≤(ej s).length)∧(True)) (λk=>(ej s).length-k) (0) ⟨rfl,trivial⟩ ⟨hB,d,a,e,b,(me _),trivial⟩ ?_
 rintro k Y Z ⟨hB,d,a,e,b,hk,_⟩ aa t
 refine Zr<|Zv (dq rfl rfl)<|ct<|Zq<|ZQ rfl (λN=> ?_) λN=> ?_
 refine cx<|Zq<|cy<|Zr<|Zv (dp (v:=l) rfl e.sl rfl cV Om Om)<|Zv (cD (v:= .int .i64 _) rfl cR (dr.cell e.sl eD 0 Om Om 0 rfl))<|ZZ rfl ?_
 obtain⟨p,ab,ac,m⟩:=mq (s:=s) (i:=k) (by omega)
 have O:(ej s).getD (k:Int).toNat 0=(p:Int):=m
 rw[O]
 refine Zr<|Zi rfl<|Zi rfl<|Zv (ra rfl rfl Om (by simp only[IntKind.bits];omega))<|Zv (nh (n:=1) rfl rfl rfl (by exact ab8 (acz _ _) pX) vl)<|Zv (dO rfl rfl)<|Zb rfl<|Zv (XK rfl rfl Tryz.underlying4)<|ct<|ZQ rfl (λf=> ?_) λf=> ?_
 refine cI<|Zv (cz rfl cC rfl b)<|Zi rfl<|ZC (vs:=[.agg #[_,_,_,_], .int .i64 _]) yY (oq _ _ _) rfl λad ae P Q=> ?_
 obtain⟨hB,d,a,e,b⟩:=P.k5 hB d a e b
 obtain rfl:=Q
 refine Zy (cA rfl rfl cC rfl b rfl rfl λaf g R=> ?_)
 replace hB:=Zg hB g D
 replace d:=At.grownNe d E g
 replace a:=At.grownNe a r g
 replace e:=cH.grownAt e b g Dd
 replace b:=R
 refine ct<|ZT rfl rfl rfl ?_
 rw[tA,Gm]at f
 exact t _ _ (k+1) Za ⟨rfl,trivial⟩ ⟨hB,d,a,e,(by (rw[xK Om,m,my,if_pos (by simpa using f)];exact b)),Om,trivial⟩ Zo
 refine cx<|ZT rfl rfl rfl ?_
 rw[tA,Gm]at f
 exact t _ _ (k+1) Za ⟨rfl,trivial⟩ ⟨hB,d,a,e,(by (rw[xK Om,m,my,if_neg (by simpa using f)];exact b)),Om,trivial⟩ Zo
 refine cT<|Zr<|Zv (cz rfl cC rfl b)<|Zy (cA rfl rfl cC rfl a rfl rfl λag u S=> ?_)
 replace hB:=Zg hB u h
 replace b:=At.grownNe b (Ne.symm r) u
 replace a:=S
 refine ct<|Zt<|jp rfl cC a rfl ⟨hB,?_⟩
 obtain rfl:k=(ej s).length:=by omega
 rw[if_pos hi,PZ]
end
section
theorem QA:cY Tryz.prog 62=true:=by kernel_rfl
theorem qP:fj Tryz.prog 43=some (4,1,1):=by kernel_rfl
theorem Qp:(d4 Tryz.prog 4).map (λz=>z.cells.size)=some 1:=by kernel_rfl
theorem Aq:eN Tryz.prog 4=true:=by kernel_rfl
theorem rg:d4 Tryz.prog 4=some (.bool false):=by kernel_rfl
theorem NR:cY Tryz.prog 98=true:=by kernel_rfl
theorem S9:cY Tryz.prog 120=true:=by kernel_rfl
theorem TX (hx:dm f x= .agg #[.int .u8 a0, .int .u8 a1]) (hy:dm f y= .agg #[.int .u8 b0, .int .u8 b1]):
    (execOp (dm f) ⟨d, .binOp .eql 34 x y t2,ty,ps,af,g⟩).run Tryz.prog w= .ok (.value (.bool (decide ((a0=b0∧a1=b1))))) w:=by
  have hg:Tryz.prog.eqGuardType Tryz.prog.depth 34=false:=by kernel_rfl
  have hp34:Tryz.prog.stoodInHeld 34=false:=by kernel_rfl
  have hu34:Tryz.prog.underlying 34=some (.struct (Tryz.prog.fieldsOf 34)):=by kernel_rfl
  simp only[execOp,hx,hy,Sem.run_bind,run_eqGuard_agg _ _ _ _ _ _ _ hg,Result.andThen_ok,run_eql_struct,run_equalIn_agg _ 9999 34 _ _ hu34 hp34]
  simp only[Program.fieldsOf,Tryz.underlying34]
  simp[Op.eqFields,part,isAgg,run_equalIn_int _ 9998 5 _ _ _ _ Tryz.underlying5,run_underlying Tryz.underlying5]
  by_cases q0:a0=b0<;>by_cases q1:a1=b1<;>simp[q0,q1]
theorem lY (n:Nat) (w:World) (hn:n≤63):
    Fn Tryz.prog 62 #[.int .i64 (n:Int)] w λv w'=>v= .int .u64 ((2^n:Nat):Int):=by
 refine cK (n:=13) Tryz.func62 rfl rfl rfl λhB=> ?_
 refine Zr<|ZZ rfl<|Zr<|ZZ rfl<|Zq<|Zr<|ZZ rfl<|cy ?_
 refine cW (σ:=(Nat)) [3,11] (λk=>[(4, .int .i64 (k:Int)),(3, .int .u64 ((2^k:Nat):Int))]) (λk W=>(Below w.heap.size w W)∧(k≤n)∧(True)) (λk=>n-k) (0) ⟨rfl,rfl,trivial⟩ ⟨hB,Om,trivial⟩ ?_
 rintro k c W9 ⟨hB,hk,_⟩ d a
 refine Zq<|Zr<|Zi rfl<|Zi rfl<|Zv (dq rfl rfl)<|ct<|ZQ rfl (λb=> ?_) λb=> ?_
 refine cx<|Zq<|cy<|cI<|Zi rfl<|Zv (N6 rfl (n:=2) rfl rfl (by exact aaP Om))<|ZZ rfl<|cI<|Zi rfl<|Zv (d5 rfl rfl Om Om)<|Zi rfl ?_
 refine ct ?_
 exact a _ _ (k+1) Za ⟨rfl,rfl,trivial⟩ ⟨hB,Om,trivial⟩ Zo
 refine cT<|Zr<|Zi rfl<|ZZ rfl<|Zt<|cZ (v:= .int .u64 _) rfl ⟨hB,?_⟩
 obtain rfl:k=n:=by omega
 rfl
theorem l7 (s:Nat) (w:World):
    Fn Tryz.prog 98 #[el s] w λv w'=>cH AP 1 4 w' w.heap.size v (AV s):=by
 refine cK (n:=27) Tryz.func98 rfl rfl rfl λhB=> ?_
 refine Zr<|Zy (du (c:= #[_,_,_,_]) rfl rfl λf W3 y j a=> ?_)
 replace hB:=Ze hB j
 refine Zw (.slice none 0 0) rfl<|ct<|Zr<|Zw (.slice none 0 0) rfl<|ct<|Zq<|Zr<|ZZ rfl<|cy ?_
 refine cW (σ:=(Nat)×(Value)) [3,25] (λ(i,v0)=>[(4, .int .i64 (i:Int)),(3,v0)]) (λsg W=>match sg with|(i,v0)=>(Below w.heap.size w W)∧(At W f _ 40)∧(cH AP 1 4 W w.heap.size v0 (nu s (64*i)))∧(i≤4)∧(True)) (λ(i,v0)=>4-i) ((0, .slice none 0 0)) ⟨rfl,rfl,trivial⟩ ⟨hB,a,cH.nil,Om,trivial⟩ ?_
 rintro⟨i,v0⟩ z A ⟨hB,a,ho,hi,_⟩ B l
 refine Zq<|Zr<|Zi rfl<|Zv (dq rfl rfl)<|ct<|ZQ rfl (λm=> ?_) λm=> ?_
 refine cx<|Zq<|cy<|Zr<|Zi rfl<|Zv (ff rfl rfl nE Om Om)<|Zv (cD (v:=wv s i) rfl nk (At.cell a (pI s i Om)))<|ZZ rfl<|Zr<|ZZ rfl<|cy ?_
 refine cW (σ:=(Nat)×(Value)) [3,3,5,6,14,25] (λ(k,v1)=>[(6, .int .i64 (k:Int)),(5, .int .u64 ((wd s i/2^k:Nat):Int)),(3,v1)]) (λsg W=>match sg with|(k,v1)=>(Below w.heap.size w W)∧(At W f _ 40)∧(cH AP 1 4 W w.heap.size v1 (nu s (64*i+k)))∧(k≤64)∧(True)) (λ(k,v1)=>64-k) ((0,v0)) ⟨rfl,congrArg (λx:Nat=>Value.int .u64 (x:Int)) (Nat.div_one _).symm,rfl,trivial⟩ ⟨hB,a,ho,Om,trivial⟩ ?_
 rintro⟨k,v1⟩ C D ⟨hB,a,b,hk,_⟩ E o
 refine Zq<|Zr<|Zi rfl<|Zv (dq rfl rfl)<|ct<|ZQ rfl (λp=> ?_) λp=> ?_
 refine cx<|Zq<|cy<|Zr<|Zw v1 rfl<|Zi rfl<|Zv (H6 (n:=2) rfl rfl rfl Om)<|Zv (dO rfl rfl)<|Zy (ez (u:= .bool _) rfl qP Qp rfl Dd Dd λq F G r t=> ?_)
 obtain⟨hB,a,b⟩:=r.k3 hB a b
 refine Zy (dP (v:=v1) (v2:= .slice (some ⟨q,0,none⟩) 1 1) rfl rfl qP Qp Dd b (eJ t rfl) rfl (m3 hB) (by simp only[sy];omega) (by simp only[sy];omega) λg H h d=> ?_)
 replace d:=cH.snoc (enc:=AP) (x:=_) rfl rfl rfl rfl d
 replace hB:=ZG hB h b
 replace a:=At.grownOw a b h Dd
 refine Zw g rfl<|ct<|cI<|Zi rfl<|Zv (Hv (n:=2) rfl rfl rfl Om (by exact ab8 (acz _ _) (IJ s i)))<|ZZ rfl<|cI<|Zi rfl<|Zv (d5 rfl rfl Om Om)<|ZZ rfl ?_
 exact o _ _ ((k+1,g)) Za ⟨rfl,congrArg (λx:Nat=>Value.int .u64 (x:Int)) (TZ (wd s i) k),rfl,trivial⟩ ⟨hB,a,(by rw[←Nat.add_assoc,En,←Lm Om];exact d),Om,trivial⟩ (by show 64-(k+1)<64-k;omega)
 refine cT<|cI<|Zi rfl<|Zv (d5 rfl rfl Om Om)<|ZZ rfl ?_
 exact l _ _ ((i+1,v1)) Za ⟨rfl,rfl,trivial⟩ ⟨hB,a,(by have e:64*i+k=64*(i+1):=Om;rw[←e];exact b),Om,trivial⟩ (by show 4-(i+1)<4-i;omega)
 refine cT<|Zr<|Zw v0 rfl<|Zw v0 rfl<|ct<|Zt<|cZ (v:=v0) rfl ⟨hB,?_⟩
 obtain rfl:i=4:=by omega
 exact ho
theorem rI (x:Value) (l:List Bool) (w:World) (hl:dr AP 1 w x l) (hn:l.length=256):
    Fn Tryz.prog 135 #[x] w λv w'=>v=el (UD l):=by
 refine cK (n:=30) Tryz.func135 rfl rfl rfl λhB=> ?_
 refine Zr<|Zy (cM ep rfl λd W3 q r a=> ?_)
 have s:=ZO q hB
 replace hB:=Ze hB r
 replace a:At W3 d #[wv 0 0,wv 0 1,wv 0 2,wv 0 3] 40:=a
 refine ct<|Zr<|Zy (cM ep rfl λf W8 h t b=> ?_)
 have u:=ZO h hB
 have j:=Zn h a.lt
 obtain⟨hB,a⟩:=t.k2 hB a
 replace b:At W8 f #[wv 0 0,wv 0 1,wv 0 2,wv 0 3] 40:=b
 refine ct<|Zq<|Zr<|ZZ rfl<|cy ?_
 refine cW (σ:=(Nat)) [4,28] (λi=>[(4, .int .i64 (i:Int))]) (λi W=>(Below w.heap.size w W)∧(At W d _ 40)∧(At W f #[wv (gK l (64*i)) 0,wv (gK l (64*i)) 1,wv (gK l (64*i)) 2,wv (gK l (64*i)) 3] 40)∧(i≤4)∧(True)) (λi=>4-i) (0) ⟨rfl,trivial⟩ ⟨hB,a,b,Om,trivial⟩ ?_
 rintro i G H ⟨hB,a,b,hi,_⟩ I y
 refine Zq<|Zr<|Zi rfl<|Zv (dq rfl rfl)<|ct<|ZQ rfl (λz=> ?_) λz=> ?_
 refine cx<|Zq<|cy<|Zr<|ZZ rfl<|cy ?_
 refine cW (σ:=(Nat)) [5,5,10,28] (λk=>[(5, .int .i64 (k:Int))]) (λk W=>(Below w.heap.size w W)∧(At W d _ 40)∧(At W f #[wv (gK l (64*i+k)) 0,wv (gK l (64*i+k)) 1,wv (gK l (64*i+k)) 2,wv (gK l (64*i+k)) 3] 40)∧(k≤64)∧(True)) (λk=>64-k) (0) ⟨rfl,trivial⟩ ⟨hB,a,b,Om,trivial⟩ ?_
 rintro k J K ⟨hB,a,b,hk,_⟩ L m
 refine Zq<|Zr<|Zi rfl<|Zv (dq rfl rfl)<|ct<|ZQ rfl (λA=> ?_) λA=> ?_
 refine cx<|Zq<|cy<|Zr<|Zw x rfl<|Zi rfl<|Zv (PV rfl rfl Om Om)<|Zi rfl<|Zv (d5 rfl rfl Om Om)<|Zv (dp (v:=x) rfl (Below.slT hB hl) rfl qP Om (by omega))<|Zv (cD (v:= .bool _) rfl Aq (dr.cell (Below.slT hB hl) rC false Om (by omega) 0 rfl))<|ct<|ZQ rfl (λc=> ?_) λc=> ?_
 replace c:l.getD (64*i+k) false=true:=by rw[←c];congr 1
 refine eR dA fx (λB C=> ?_)
 obtain⟨hB,a,b⟩:=C.k3 hB a b
 have hS:=dA.refl B
 refine Ti 0 rfl rfl hS<|Ti 1 rfl rfl hS<|Tk 2 rfl (λ_ _=>ff rfl rfl nE Om Om) hS<|Tk 3 rfl (λ_ hq=>cD (v:=wv _ i) rfl nk (At.cell (hq.at b) (pI _ i Om))) hS<|Ti 4 rfl rfl hS<|To 5 rfl (TC QA (lY k _ Om) rfl λM N g D=>⟨.inl (hS.trans g),?_⟩)
 obtain⟨hB,a,b⟩:=g.k3 hB a b
 replace hS:=hS.trans g
 obtain rfl:=D
 refine Tk 6 rfl (λ_ _=>Hq rfl (n:=_) rfl rfl (by exact CT l Om Om)) hS<|Tk 7 rfl (λ_ _=>ff rfl rfl nE Om Om) hS<|To 8 rfl (de (v:= .int .u64 _) rfl rfl nk rfl b ix λO o E=>⟨.inr jW,?_⟩)
 replace hB:=Zg hB o u
 replace a:=At.grownNe a j o
 replace b:=E
 rw[EV (by omega) (Lf l (by omega) (by omega) c)]at b
 refine Td<|cI<|Zi rfl<|Zv (d5 rfl rfl Om Om)<|ZZ rfl ?_
 exact m _ _ (k+1) Za ⟨rfl,trivial⟩ ⟨hB,a,(by exact b),Om,trivial⟩ Zo
 refine cx<|cI<|Zi rfl<|Zv (d5 rfl rfl Om Om)<|ZZ rfl ?_
 exact m _ _ (k+1) Za ⟨rfl,trivial⟩ ⟨hB,a,(by (rw[show 64*i+(k+1)=64*i+k+1 from rfl,FH (by rw[←c];congr 1)];exact b)),Om,trivial⟩ Zo
 refine cT<|cI<|Zi rfl<|Zv (d5 rfl rfl Om Om)<|ZZ rfl ?_
 exact y _ _ (i+1) Za ⟨rfl,trivial⟩ ⟨hB,a,(by have e:64*i+k=64*(i+1):=Om;rw[←e];exact b),Om,trivial⟩ Zo
 refine cT<|Zr<|Zv (cz rfl cC rfl b)<|Zy (cA rfl rfl cC rfl a rfl rfl λP p F=> ?_)
 replace hB:=Zg hB p s
 replace b:=At.grownNe b (Ne.symm j) p
 replace a:=F
 refine ct<|Zt<|jp rfl cC a rfl ⟨hB,?_⟩
 obtain rfl:i=4:=by omega
 rfl
theorem rU (n:Int) (w:World) (h0:0≤n) (h1:n≤8):
    Fn Tryz.prog 19 #[.int .i64 n] w λv w'=>cH AP 1 4 w' w.heap.size v (nU (2^n.toNat)):=by
 refine cK (n:=17) Tryz.func19 rfl rfl rfl λhB=> ?_
 obtain⟨n,rfl⟩:=ab2 h0
 have hn:n≤8:=by omega
 have h8:=abI hn
 refine Zr<|Zw (.slice none 0 0) rfl<|ct<|Zr<|Zy (Oz (n:=256) (N:=w.heap.size) rfl rfl qP rg Dd Dd (Below.size hB) λb W5 d c=> ?_)
 replace c:=ad8 rC false rfl Dd c
 replace hB:=Ze hB d
 rw[Fw]at c
 refine Zw b rfl<|ct<|Zq<|Zr<|ZZ rfl<|cy ?_
 refine cW (σ:=(Nat)) [4,4,6,15] (λk=>[(4, .int .i64 (k:Int))]) (λk W=>(Below w.heap.size w W)∧(cH AP 1 4 W w.heap.size b (nU k))∧(k≤2^n)∧(True)) (λk=>2^n-k) (0) ⟨rfl,trivial⟩ ⟨hB,c,(me _),trivial⟩ ?_
 rintro k m o ⟨hB,ho,hk,_⟩ p e
 refine Zq<|Zr<|Zi rfl<|Zv (iP rfl Tryz.underlying3 Tryz.underlying38 pX)<|Zi rfl<|ZC QA (lY _ _ (by omega)) rfl λq r f g=> ?_
 obtain⟨hB,ho⟩:=f.k2 hB ho
 obtain rfl:=g
 refine Zv (dq rfl rfl)<|ct<|ZQ rfl (λh=> ?_) λh=> ?_
 refine cx<|Zq<|cy<|cI<|Zw b rfl<|Zi rfl<|Zv (dp (v:=b) rfl ho.sl rfl qP Om XX)<|Zy (vX (v:=b) (u:= .bool true) (a:=true) (j:=_) rfl rfl (.inl ⟨Aq,rfl⟩) rC rfl rfl ho Om XX λs i l=> ?_)
 replace hB:=ZG hB i ho
 replace ho:=l
 rw[H5]at ho
 refine ct<|cI<|Zi rfl<|Zv (d5 rfl rfl Om Om)<|ZZ rfl ?_
 exact e _ _ (k+1) Za ⟨rfl,trivial⟩ ⟨hB,(by exact ho),Om,trivial⟩ Zo
 refine cT<|Zr<|Zw b rfl<|Zw b rfl<|ct<|Zt<|cZ (v:=b) rfl ⟨hB,?_⟩
 obtain rfl:k=2^n:=by omega
 exact ho
theorem lr (a b:Nat) (w:World):
    Fn Tryz.prog 134 #[el a,el b] w λv w'=>v= .bool (dW a b):=by
 refine cK (n:=27) Tryz.func134 rfl rfl rfl λhB=> ?_
 refine Zr<|Zy (du (c:= #[_,_,_,_]) rfl rfl λs W3 E t d=> ?_)
 replace hB:=Ze hB t
 refine Zy (du (c:= #[_,_,_,_]) rfl rfl λu W6 F x e=> ?_)
 obtain⟨hB,d⟩:=x.k2 hB d
 refine Zb rfl<|ct<|Zd dA λy z=> ?_
 obtain⟨hB,d,e⟩:=z.k3 hB d e
 have hS:=dA.refl y
 refine Tk 0 rfl (λ_ hq=>cz rfl cC rfl (hq.at d)) hS<|Tk 2 rfl (λ_ hq=>cz rfl cC rfl (hq.at e)) hS<|To 1 rfl (TC (vs:=[.agg #[_,_,_,_]]) NR (l7 _ _) rfl λh G l f=>⟨.inl (hS.trans l),?_⟩)
 have A:=(Below.size hB)
 obtain⟨hB,d,e⟩:=l.k3 hB d e
 replace hS:=hS.trans l
 replace f:=cH.mono f A
 refine To 3 rfl (TC (vs:=[.agg #[_,_,_,_]]) NR (l7 _ _) rfl λi H m g=>⟨.inl (hS.trans m),?_⟩)
 have B:=adi f
 have C:=(Below.size hB)
 obtain⟨hB,d,e,f⟩:=m.k4 hB d e f
 replace hS:=hS.trans m
 have j:=fp.new B g
 replace g:=cH.mono g C
 refine Tw 4 h rfl rfl hS<|Tw 5 i rfl rfl hS<|Td<|Zq<|Zr<|ZZ rfl<|cy ?_
 refine cW (σ:=(Nat)) [4,4,7,7,12,26] (λk=>[(7, .int .i64 (k:Int))]) (λk W=>(Below w.heap.size w W)∧(At W s _ 40)∧(At W u _ 40)∧(cH AP 1 4 W w.heap.size h _)∧(fp h i)∧(cH AP 1 4 W w.heap.size i _)∧(k≤256)∧(∀p,p<k→a.testBit p=true→b.testBit p=true)∧(True)) (λk=>256-k) (0) ⟨rfl,trivial⟩ ⟨hB,d,e,f,j,g,Om,eO,trivial⟩ ?_
 rintro k I J ⟨hB,d,e,f,j,g,hk,hw,_⟩ K r
 refine Zq<|Zr<|Zi rfl<|Zv (dq rfl rfl)<|ct<|ZQ rfl (λD=> ?_) λD=> ?_
 refine cx<|Zq<|cy<|Zr<|Zw h rfl<|Zi rfl<|Zv (dp (v:=h) rfl f.sl rfl qP Om XX)<|Zv (cD (v:= .bool _) rfl Aq (dr.cell f.sl rC false Om XX 0 rfl))<|ZX rfl (λo=> ?_) λo=> ?_
 refine Zw i rfl<|Zi rfl<|Zv (dp (v:=i) rfl g.sl rfl qP Om XX)<|Zv (cD (v:= .bool _) rfl Aq (dr.cell g.sl rC false Om XX 0 rfl))<|Zv (eK rfl)<|Zb rfl<|ct<|ZQ rfl (λq=> ?_) λq=> ?_
 refine Zr<|Zb rfl<|ct<|Zt<|cZ (v:= .bool false) rfl ⟨hB,?_⟩
 exact congrArg Value.bool (Ed Om o q).symm
 refine cx<|cI<|Zi rfl<|Zv (d5 rfl rfl Om Om)<|ZZ rfl ?_
 exact r _ _ (k+1) Za ⟨rfl,trivial⟩ ⟨hB,d,e,f,j,g,Om,(dT hw (xJ Om (by exact .inr q))),trivial⟩ Zo
 refine Zs<|Zs<|Zs<|Zs<|Zs<|Zb rfl<|ct<|dE rfl<|cx<|cI<|Zi rfl<|Zv (d5 rfl rfl Om Om)<|Zi rfl ?_
 refine ct ?_
 exact r _ _ (k+1) Za ⟨rfl,trivial⟩ ⟨hB,d,e,f,j,g,Om,(dT hw (xJ Om (by exact .inl o))),trivial⟩ Zo
 refine cT<|Zr<|Zb rfl<|ct<|Zt<|cZ (v:= .bool true) rfl ⟨hB,?_⟩
 exact congrArg Value.bool (GV Om hw).symm
theorem rm (x:Value) (l:List Int) (w:World) (hl:dr dX 1 w x l) (hL:Rh l):
    Fn Tryz.prog 120 #[x] w λv w'=>v= .agg #[.int .u8 ((kZ l l.length:Nat):Int), .int .u8 ((ou l l.length:Nat):Int)]:=by
 refine cK (n:=36) Tryz.func120 rfl rfl rfl λhB=> ?_
 have h8:=hL.1
 refine Zr<|Zy (cM gV rfl λo W3 p r b=> ?_)
 have s:=ZO p hB
 replace hB:=Ze hB r
 refine ct<|Zr<|Zy (cM gV rfl λt W8 e u a=> ?_)
 have f:=ZO e hB
 have d:=Zn e b.lt
 obtain⟨hB,b⟩:=u.k2 hB b
 refine ct<|Zr<|ZZ rfl<|Zq<|Zr<|ZZ rfl<|cy ?_
 refine cW (σ:=(Nat)) [4,34] (λk=>[(5, .int .i64 (k:Int)),(4, .int .u8 ((2^k%256:Nat):Int))]) (λk W=>(Below w.heap.size w W)∧(At W o _ 34)∧(At W t #[.int .u8 ((kZ l k:Nat):Int), .int .u8 ((ou l k:Nat):Int)] 34)∧(k≤l.length)∧(True)) (λk=>l.length-k) (0) ⟨rfl,rfl,trivial⟩ ⟨hB,b,a,(me _),trivial⟩ ?_
 rintro k E F ⟨hB,b,a,hk,_⟩ G g
 refine Zq<|Zr<|Zi rfl<|Zw x rfl<|Zv (db (v:=x) rfl (Below.slT hB hl) cV)<|Zv (dq rfl rfl)<|ct<|ZQ rfl (λy=> ?_) λy=> ?_
 refine cx<|Zq<|cy<|Zq ?_
 have h7:=Eb (show k<8 by omega)
 rw[ada (show 2^k<256 by omega)]
 have hA:=Cd l k
 have hB2:=G3 l k
 refine Zr<|Zw x rfl<|Zi rfl<|Zv (dp (v:=x) rfl (Below.slT hB hl) rfl cV Om (by omega))<|Zv (cD (v:= .int .i64 _) rfl cR (dr.cell (Below.slT hB hl) eD 0 Om (by omega) 0 rfl))<|Zv (dq rfl rfl)<|ct<|ZQ rfl (λc=> ?_) λc=> ?_
 obtain⟨q,hq0,hq1⟩:=hL.get (k:=k) (by omega) c
 refine Zr<|Zf rfl ey<|Zl rfl dN a rfl<|Zi rfl<|Zv (Hq rfl (n:=_) rfl rfl pX)<|Zf rfl ey<|Zy (de (v:= .int .u8 _) rfl rfl dN rfl a fF λH h z=> ?_)
 replace hB:=Zg hB h f
 replace b:=At.grownNe b d h
 replace a:=z
 replace a:At _ _ #[_,_] _:=a
 refine ct ?_
 have hq2:2^k*q≤2^k*1:=Nat.mul_le_mul_left _ hq0
 have hq3:l.getD (k:Int).toNat 0=(q:Int):=hq1
 refine eR dA fx (λA B=> ?_)
 obtain⟨hB,b,a⟩:=B.k3 hB b a
 have hS:=dA.refl A
 refine Tf 0 rfl rfl fO hS<|Tk 1 rfl (λ_ hq=>cD (v:= .int .u8 _) rfl dN (At.cell (hq.at a) rfl)) hS<|Ti 2 rfl rfl hS<|Tw 3 x rfl rfl hS<|Ti 4 rfl rfl hS<|Tk 5 rfl (λ_ hq=>dp (v:=x) rfl (hq.slT (Below.slT hB hl)) rfl cV Om (by omega)) hS<|Tk 6 rfl (λ_ hq=>cD (v:= .int .i64 _) rfl cR (dr.cell (hq.slT (Below.slT hB hl)) eD 0 Om (by omega) 0 rfl)) hS<|Tk 7 rfl (λ_ _=>iP (m:=q) (congrArg (Value.int .i64) hq3) Tryz.underlying3 Tryz.underlying5 pX) hS<|Tk 8 rfl (λ_ _=>N6 rfl (n:=q) rfl rfl pX) hS<|Tk 9 rfl (λ_ _=>Hq rfl (n:=(2^k*q)) rfl rfl pX) hS<|Tf 10 rfl rfl fO hS<|To 11 rfl (de (v:= .int .u8 _) rfl rfl dN rfl a fF λI i C=>⟨.inr jW,?_⟩)
 replace hB:=Zg hB i f
 replace b:=At.grownNe b d i
 replace a:=C
 replace a:At _ _ #[_,_] _:=a
 refine Td<|cI<|Zi rfl<|Zv (Jp (n:=2) rfl rfl rfl)<|ZZ rfl<|cI<|Zi rfl<|Zv (d5 rfl rfl Om Om)<|ZZ rfl ?_
 exact g _ _ (k+1) Za ⟨rfl,rfl,trivial⟩ ⟨hB,b,(by (rw[(qp (k:=k) hq1 hq0).1,(qp (k:=k) hq1 hq0).2];exact a)),Om,trivial⟩ Zo
 refine cx<|cI<|Zi rfl<|Zv (Jp (n:=2) rfl rfl rfl)<|ZZ rfl<|cI<|Zi rfl<|Zv (d5 rfl rfl Om Om)<|ZZ rfl ?_
 exact g _ _ (k+1) Za ⟨rfl,rfl,trivial⟩ ⟨hB,b,(by (rw[(ua (k:=k) c).1,(ua (k:=k) c).2];exact a)),Om,trivial⟩ Zo
 refine cT<|Zr<|Zv (cz rfl dh rfl a)<|Zy (cA rfl rfl dh rfl b rfl rfl λJ j D=> ?_)
 replace hB:=Zg hB j s
 replace a:=At.grownNe a (Ne.symm d) j
 replace b:=D
 refine ct<|Zt<|jp rfl dh b rfl ⟨hB,?_⟩
 obtain rfl:k=l.length:=by omega
 rfl
end
section
theorem D7:cY Tryz.prog 60=true:=by kernel_rfl
theorem oC (h0:dm f x0=c0_0) (k0:c0_0.cells= #[c0_0]) (h1:dm f x1=c1_0) (k1:c1_0.cells= #[c1_0]):
    (execOp (dm f) ⟨d, .build 34 #[(0,x0),(1,x1)],ty,ps,af,g⟩).run Tryz.prog w= .ok (.value (.agg #[c0_0,c1_0])) w:=by
  obtain⟨i0,hi0,hz0⟩:=we.1 (show (Tryz.prog.info? 34).bind (·.zero)=_ from gV)
  obtain⟨j5,hj5,hs5⟩:=an.1 pM
  simp[execOp,h0,k0,h1,k1,Instr.build,zeroValue,typeInfo,sizeOf,hi0,hz0,run_underlying Tryz.underlying34,Instr.fill,d7,hj5,hs5]
theorem Eu:cY Tryz.prog 237=true:=by kernel_rfl
theorem nD (m u:Nat) (n:Int) (w:World) (hm:m<256) (hv:u<256):
    Fn Tryz.prog 60 #[.agg #[.int .u8 (m:Int), .int .u8 (u:Int)], .int .i64 n] w λv w'=>v= .bool (dS m u n):=by
 refine cK (n:=27) Tryz.func60 rfl rfl rfl λhB=> ?_
 refine Zr<|Zy (du (c:= #[_,_]) rfl rfl λh W3 i f a=> ?_)
 replace hB:=Ze hB f
 refine Zb rfl<|ct ?_
 have h8:n≤8→2^n.toNat≤256:=fm
 refine Zd dA λW8 g=> ?_
 obtain⟨hB,a⟩:=g.k2 hB a
 have hS:=dA.refl W8
 refine Ti 0 rfl rfl hS<|Tk 1 rfl (λ_ _=>ky rfl rfl) hS<|Tx 2 rfl (λ_ _=>jV (v:= .bool _) rfl) hS (λd=> ?_) λd=> ?_
 refine Ti 3 rfl rfl hS<|Tk 4 rfl (λ_ _=>tW rfl rfl) hS<|Ty 5 rfl rfl hS<|Tx 6 rfl (λ_ _=>jV (v:= .bool _) rfl) hS (λe=> ?_) λe=> ?_
 refine Tf 7 rfl rfl ey hS<|Tk 8 rfl (λ_ hq=>cD (v:= .int .u8 _) rfl dN (At.cell (hq.at a) rfl)) hS<|Tk 9 rfl (λ_ _=>iP rfl Tryz.underlying5 Tryz.underlying3 pX) hS<|Ti 10 rfl rfl hS<|Tk 11 rfl (λ_ _=>jK (m:=1) rfl rfl Om (by simp only[IntKind.bits];omega) (by rw[abJ];have:=h8 Om;simp only[ig];omega)) hS<|Tk 12 rfl (λ_ _=>dq rfl rfl) hS<|Ty 13 rfl rfl hS<|Tx 14 rfl (λ_ _=>jV (v:= .bool _) rfl) hS (λb=> ?_) λb=> ?_
 refine Tf 15 rfl rfl fO hS<|Tk 16 rfl (λ_ hq=>cD (v:= .int .u8 _) rfl dN (At.cell (hq.at a) rfl)) hS<|Tf 17 rfl rfl ey hS<|Tk 18 rfl (λ_ hq=>cD (v:= .int .u8 _) rfl dN (At.cell (hq.at a) rfl)) hS<|Tk 19 rfl (λ_ _=>rK (n:=_) rfl rfl rfl pr pr) hS<|Tk 20 rfl (λ_ _=>dO rfl rfl) hS<|Ty 21 rfl rfl hS<|Ty 22 rfl rfl hS<|Td<|Zt<|cZ (v:= .bool _) rfl ⟨hB,?_⟩
 exact congrArg Value.bool (Qk d e b)
 refine Tp 15 rfl hS<|Tp 16 rfl hS<|Tp 17 rfl hS<|Tp 18 rfl hS<|Tp 19 rfl hS<|Tp 20 rfl hS<|Ty 21 rfl rfl hS<|Ty 22 rfl rfl hS<|Td<|Zt<|cZ (v:= .bool false) rfl ⟨hB,?_⟩
 exact congrArg Value.bool (Qn b)
 refine Tp 7 rfl hS<|Tp 8 rfl hS<|Tp 9 rfl hS<|Tp 10 rfl hS<|Tp 11 rfl hS<|Tp 12 rfl hS<|Ty 13 rfl rfl hS<|Ty 14 rfl rfl hS<|Tp 15 rfl hS<|Tp 16 rfl hS<|Tp 17 rfl hS<|Tp 18 rfl hS<|Tp 19 rfl hS<|Tp 20 rfl hS ?_
 refine Ty 21 rfl rfl hS<|Ty 22 rfl rfl hS<|Td<|Zt<|cZ (v:= .bool false) rfl ⟨hB,?_⟩
 exact congrArg Value.bool (CO (by omega)).symm
 refine Tp 3 rfl hS<|Tp 4 rfl hS<|Ty 5 rfl rfl hS<|Ty 6 rfl rfl hS<|Tp 7 rfl hS<|Tp 8 rfl hS<|Tp 9 rfl hS<|Tp 10 rfl hS<|Tp 11 rfl hS<|Tp 12 rfl hS<|Ty 13 rfl rfl hS<|Ty 14 rfl rfl hS<|Tp 15 rfl hS<|Tp 16 rfl hS ?_
 refine Tp 17 rfl hS<|Tp 18 rfl hS<|Tp 19 rfl hS<|Tp 20 rfl hS<|Ty 21 rfl rfl hS<|Ty 22 rfl rfl hS<|Td<|Zt<|cZ (v:= .bool false) rfl ⟨hB,?_⟩
 exact congrArg Value.bool (CO (by omega)).symm
theorem kx (m u:Nat) (n:Int) (w:World) (hm:m<256) (hv:u<256):
    Fn Tryz.prog 18 #[.agg #[.int .u8 (m:Int), .int .u8 (u:Int)], .int .i64 n] w λv w'=>v=if dS m u n=true then .tuple #[el (rj m u n.toNat), .int .i64 0]else .tuple #[el 0, .int .i64 1]:=by
 refine cK (n:=31) Tryz.func18 rfl rfl rfl λhB=> ?_
 refine Zr<|Zy (du (c:= #[_,_]) rfl rfl λr W3 K s b=> ?_)
 replace hB:=Ze hB s
 refine Zy (cM ep rfl λh W6 t x a=> ?_)
 have i:=ZO t hB
 obtain⟨hB,b⟩:=x.k2 hB b
 replace a:At W6 h #[wv 0 0,wv 0 1,wv 0 2,wv 0 3] 40:=a
 refine ZZ rfl<|Zq<|Zr<|Zv (cz rfl dh rfl b)<|Zi rfl<|ZC (vs:=[.agg #[_,_], .int .i64 _]) D7 (nD _ _ _ _ pr pr) rfl λL M y z=> ?_
 obtain⟨hB,b,a⟩:=y.k3 hB b a
 obtain rfl:=z
 refine Zv (eK rfl)<|ct<|ZQ rfl (λe=> ?_) λe=> ?_
 refine Zr<|Zv (v:=el 0) (gq)<|Zy (cA rfl rfl cC rfl a rfl rfl λN A B=> ?_)
 replace hB:=Zg hB A i
 replace a:=B
 refine ZZ rfl<|Zt<|ex rfl cC a rfl (v1:= .int .i64 1) rfl ⟨hB,?_⟩
 rw[if_neg (by simpa using e)]
 refine cx ?_
 have hr:dS m u n=true:=by simpa using e
 obtain⟨hn0,hn8,hmn,hvm⟩:=dB.1 hr
 have hp:=fm hn8
 refine Zr<|Zy (cM ep rfl λj C l D d=> ?_)
 have E:=ZO l hB
 have o:=Zn l a.lt
 obtain⟨hB,b,a⟩:=D.k3 hB b a
 replace d:At C j #[wv 0 0,wv 0 1,wv 0 2,wv 0 3] 40:=d
 refine ct<|Zq<|Zr<|Zi rfl<|Zv (jK (m:=1) rfl rfl Om (by simp only[IntKind.bits];omega) V8)<|ZZ rfl<|cy ?_
 refine cW (σ:=(Nat)) [7,7,15,29] (λk=>[(15, .int .i64 (k:Int))]) (λk W=>(Below w.heap.size w W)∧(At W r _ 34)∧(At W h _ 40)∧(At W j #[wv (o7 m u k) 0,wv (o7 m u k) 1,wv (o7 m u k) 2,wv (o7 m u k) 3] 40)∧(k≤2^n.toNat)∧(True)) (λk=>2^n.toNat-k) (0) ⟨rfl,trivial⟩ ⟨hB,b,a,d,(me _),trivial⟩ ?_
 rintro k O P ⟨hB,b,a,d,hk,_⟩ Q p
 refine Zr<|Zv (dq rfl rfl)<|ct<|Zq<|ZQ rfl (λF=> ?_) λF=> ?_
 refine cx<|Zq<|cy<|Zr<|Zi rfl<|ZZ rfl<|Zr<|Zi rfl<|Zv (iP rfl Tryz.underlying3 Tryz.underlying5 pX)<|Zf rfl ey<|Zl rfl dN b rfl<|Zv (nh (n:=_) rfl rfl rfl vl pr) ?_
 refine Zf rfl fO<|Zl rfl dN b rfl<|Zv (dO rfl rfl)<|ct<|ZQ rfl (λf=> ?_) λf=> ?_
 refine cI<|Zv (cz rfl cC rfl d)<|Zi rfl<|ZC (vs:=[.agg #[_,_,_,_], .int .i64 _]) yY (oq _ _ _) rfl λR S G H=> ?_
 obtain⟨hB,b,a,d⟩:=G.k4 hB b a d
 obtain rfl:=H
 refine Zy (cA rfl rfl cC rfl d rfl rfl λT g I=> ?_)
 replace hB:=Zg hB g E
 replace b:=At.grownAt b d g Dd
 replace a:=At.grownNe a o g
 replace d:=I
 refine ct<|ZT rfl rfl rfl ?_
 exact p _ _ (k+1) Za ⟨rfl,trivial⟩ ⟨hB,b,a,(by (rw[Ts f];exact d)),Rb,trivial⟩ Rb
 refine cx<|ZT rfl rfl rfl ?_
 exact p _ _ (k+1) Za ⟨rfl,trivial⟩ ⟨hB,b,a,(by (rw[Rf f];exact d)),Rb,trivial⟩ Rb
 refine cT<|Zr<|Zv (cz rfl cC rfl d)<|Zy (cA rfl rfl cC rfl a rfl rfl λU q J=> ?_)
 replace hB:=Zg hB q i
 replace d:=At.grownNe d (Ne.symm o) q
 replace a:=J
 refine ZZ rfl<|Zt<|ex rfl cC a rfl (v1:= .int .i64 0) rfl ⟨hB,?_⟩
 have hk2:k=2^n.toNat:=by simp only[abJ]at*;omega
 subst hk2
 rw[if_pos hr];rfl
theorem qx (m u:Nat) (w:World) (hm:m<256) (hv:u<256):
    Fn Tryz.prog 237 #[.agg #[.int .u8 (m:Int), .int .u8 (u:Int)]] w λv w'=>v= .agg #[.int .u8 (m:Int), .int .u8 ((u &&& m:Nat):Int)]:=by
 refine cK (n:=11) Tryz.func237 rfl rfl rfl λhB=> ?_
 refine Zr<|Zy (du (c:= #[_,_]) rfl rfl λj W3 k d a=> ?_)
 replace hB:=Ze hB d
 refine Zy (cM gV rfl λl W6 e f b=> ?_)
 have g:=ZO e hB
 obtain⟨hB,a⟩:=f.k2 hB a
 refine ct<|Zr<|Zf rfl ey<|Zl rfl dN a rfl<|Zf rfl fO<|Zl rfl dN a rfl<|Zf rfl ey<|Zl rfl dN a rfl<|Zv (nh (n:=_) rfl rfl rfl pr pr)<|Zv (oC (h0:=rfl) (k0:=rfl) (h1:=rfl) (k1:=rfl) (c0_0:= .int .u8 _) (c1_0:= .int .u8 _))<|Zy (cA rfl rfl dh rfl b rfl rfl λo h i=> ?_)
 replace hB:=Zg hB h g
 replace b:=i
 refine ct<|Zt<|jp rfl dh b rfl ⟨hB,?_⟩
 rfl
theorem lN (m u:Nat) (i:Int) (w:World) (hm:m<256) (hv:u<256):
    Fn Tryz.prog 198 #[.agg #[.int .u8 (m:Int), .int .u8 (u:Int)], .int .i64 i] w λv w'=>v=woV m u i:=by
 refine cK (n:=19) Tryz.func198 rfl rfl rfl λhB=> ?_
 refine Zr<|Zy (du (c:= #[_,_]) rfl rfl λH W3 j k b=> ?_)
 have l:=ZO j hB
 replace hB:=Ze hB k
 refine Zy (cM gV rfl λI W6 f o a=> ?_)
 have e:=ZO f hB
 have p:=Zn f b.lt
 obtain⟨hB,b⟩:=o.k2 hB b
 refine ct<|Zq<|Zr<|Zi rfl<|Zv (ky rfl rfl)<|ZX rfl (λq=> ?_) λq=> ?_
 refine Zi rfl<|Zv (dq rfl rfl)<|Zb rfl<|ct<|ZQ rfl (λr=> ?_) λr=> ?_
 have h7:=Eb (show i.toNat<8 by omega)
 have hle:=sN m (1*2^i.toNat)
 refine eR dA fx (λs t=> ?_)
 obtain⟨hB,b,a⟩:=t.k3 hB b a
 have hS:=dA.refl s
 refine Tf 0 rfl rfl ey hS<|Tk 1 rfl (λ_ hq=>cD (v:= .int .u8 _) rfl dN (At.cell (hq.at b) rfl)) hS<|Ti 2 rfl rfl hS<|Tk 3 rfl (λ_ _=>jK (m:=1) rfl rfl Om (by simp only[IntKind.bits];omega) V8) hS<|Tk 4 rfl (λ_ _=>rK (n:=_) rfl rfl rfl pr V8) hS<|Tf 5 rfl rfl ey hS<|To 6 rfl (de (v:= .int .u8 _) rfl rfl dN rfl b fF λJ g x=>⟨.inr jW,?_⟩)
 replace hB:=Zg hB g l
 replace a:=At.grownNe a (Ne.symm p) g
 replace b:=x
 replace b:At _ _ #[_,_] _:=b
 refine Td<|Zr<|Zv (cz rfl dh rfl b)<|ZC (vs:=[.agg #[_,_]]) Eu (qx _ _ _ (by omega) (by omega)) rfl λh K y d=> ?_
 obtain⟨hB,a⟩:=y.k2 hB a
 obtain rfl:=d
 refine Zy (cA rfl rfl dh rfl a rfl rfl λL z A=> ?_)
 replace hB:=Zg hB z e
 replace a:=A
 refine ct<|Zt<|jp rfl dh a rfl ⟨hB,?_⟩
 (rw[woV,lK,if_pos (by omega)];simp only[abJ])
 refine cx<|Zr<|Zv (cz rfl dh rfl b)<|ZC (vs:=[.agg #[_,_]]) Eu (qx _ _ _ (by omega) (by omega)) rfl λh M B d=> ?_
 obtain⟨hB,a⟩:=B.k2 hB a
 obtain rfl:=d
 refine Zy (cA rfl rfl dh rfl a rfl rfl λN C D=> ?_)
 replace hB:=Zg hB C e
 replace a:=D
 refine ct<|Zt<|jp rfl dh a rfl ⟨hB,?_⟩
 (rw[woV,lK,if_neg (by omega)])
 refine Zs<|Zs<|Zb rfl<|ct<|dE rfl<|cx<|Zr<|Zv (cz rfl dh rfl b)<|ZC (vs:=[.agg #[_,_]]) Eu (qx _ _ _ (by omega) (by omega)) rfl λh O E d=> ?_
 obtain⟨hB,a⟩:=E.k2 hB a
 obtain rfl:=d
 refine Zy (cA rfl rfl dh rfl a rfl rfl λP F G=> ?_)
 replace hB:=Zg hB F e
 replace a:=G
 refine ct<|Zt<|jp rfl dh a rfl ⟨hB,?_⟩
 (rw[woV,lK,if_neg (by omega)])
end
section
theorem mz:eb Tryz.prog 24 0=some 0:=by kernel_rfl
theorem f6:eb Tryz.prog 24 1=some 1:=by kernel_rfl
theorem gN:eb Tryz.prog 24 2=some 2:=by kernel_rfl
theorem fW:eb Tryz.prog 24 3=some 3:=by kernel_rfl
theorem iU:eN Tryz.prog 22=true:=by kernel_rfl
theorem gZ:fj Tryz.prog 22=some (37,3,32):=by kernel_rfl
theorem gk:kn Tryz.prog 37=some 3:=by kernel_rfl
theorem pq:d4 Tryz.prog 37=some (.agg #[.int .u8 0, .int .u8 0, .slice none 0 0]):=by kernel_rfl
theorem wY:eb Tryz.prog 37 0=some 0:=by kernel_rfl
theorem g7:eb Tryz.prog 37 1=some 2:=by kernel_rfl
theorem fv:eN Tryz.prog 35=true:=by kernel_rfl
theorem xx (T:Tb) (lv:Value) (vs:List CV) (w:World) (hlv:dr il 3 w lv vs) (hls:qo w vs T.ls) (hmb:∀i,i<T.ls.length→(T.ls.getD i jH).c.m<256∧(T.ls.getD i jH).c.v<256):
    Fn Tryz.prog 54 #[.agg #[.int .i64 T.kind, .int .i64 T.ni, .int .i64 T.no,lv]] w λv w'=>v= .bool (fy T):=by
 refine cK (n:=77) Tryz.func54 rfl rfl rfl λhB=> ?_
 have hle:=hls.len
 refine Zr<|Zy (du (c:= #[_,_,_,_]) rfl rfl λl W3 N s a=> ?_)
 replace hB:=Ze hB s
 refine Zb rfl<|ct<|Zq<|Zr<|Zf rfl mz<|Zl rfl cR a rfl<|Zv (dq rfl rfl)<|ZX rfl (λt=> ?_) λt=> ?_
 refine Zs<|Zs<|Zs<|Zb rfl<|Zb rfl<|Zs<|Zs<|Zs<|Zb rfl<|Zb rfl<|Zs<|Zs<|Zs<|Zb rfl ?_
 refine Zb rfl<|Zs<|Zs<|Zs<|Zb rfl<|Zb rfl<|Zs<|Zs<|Zs<|Zb rfl<|Zb rfl<|Zs<|Zs<|Zs ?_
 refine Zs<|Zb rfl<|ct<|cN rfl<|Zr<|Zb rfl<|ct<|Zt<|cZ (v:= .bool false) rfl ⟨hB,?_⟩
 exact nY (by omega)
 refine Zf rfl mz<|Zl rfl cR a rfl<|Zv (gQ rfl rfl)<|Zb rfl<|ZX rfl (λu=> ?_) λu=> ?_
 refine Zs<|Zs<|Zs<|Zb rfl<|Zb rfl<|Zs<|Zs<|Zs<|Zb rfl<|Zb rfl<|Zs<|Zs<|Zs<|Zb rfl ?_
 refine Zb rfl<|Zs<|Zs<|Zs<|Zb rfl<|Zb rfl<|Zs<|Zs<|Zs<|Zs<|Zb rfl<|ct<|cN rfl<|Zr ?_
 refine Zb rfl<|ct<|Zt<|cZ (v:= .bool false) rfl ⟨hB,?_⟩
 exact nY (by omega)
 refine Zf rfl f6<|Zl rfl cR a rfl<|Zv (dq rfl rfl)<|Zb rfl<|ZX rfl (λx=> ?_) λx=> ?_
 refine Zs<|Zs<|Zs<|Zb rfl<|Zb rfl<|Zs<|Zs<|Zs<|Zb rfl<|Zb rfl<|Zs<|Zs<|Zs<|Zb rfl ?_
 refine Zb rfl<|Zs<|Zs<|Zs<|Zs<|Zb rfl<|ct<|cN rfl<|Zr<|Zb rfl<|ct<|Zt<|cZ (v:= .bool false) rfl ⟨hB,?_⟩
 exact nY (by omega)
 refine Zf rfl f6<|Zl rfl cR a rfl<|Zv (gQ rfl rfl)<|Zb rfl<|ZX rfl (λy=> ?_) λy=> ?_
 refine Zs<|Zs<|Zs<|Zb rfl<|Zb rfl<|Zs<|Zs<|Zs<|Zb rfl<|Zb rfl<|Zs<|Zs<|Zs<|Zs ?_
 refine Zb rfl<|ct<|cN rfl<|Zr<|Zb rfl<|ct<|Zt<|cZ (v:= .bool false) rfl ⟨hB,?_⟩
 exact nY (by omega)
 refine Zf rfl gN<|Zl rfl cR a rfl<|Zv (dq rfl rfl)<|Zb rfl<|ZX rfl (λz=> ?_) λz=> ?_
 refine Zs<|Zs<|Zs<|Zb rfl<|Zb rfl<|Zs<|Zs<|Zs<|Zs<|Zb rfl<|ct<|cN rfl<|Zr<|Zb rfl ?_
 refine ct<|Zt<|cZ (v:= .bool false) rfl ⟨hB,?_⟩
 exact nY (by omega)
 refine Zf rfl gN<|Zl rfl cR a rfl<|Zv (gQ rfl rfl)<|Zb rfl<|ZX rfl (λA=> ?_) λA=> ?_
 refine Zs<|Zs<|Zs<|Zs<|Zb rfl<|ct<|cN rfl<|Zr<|Zb rfl<|ct<|Zt<|cZ (v:= .bool false) rfl ⟨hB,?_⟩
 exact nY (by omega)
 refine Zf rfl fW<|ZL lv rfl iU a rfl<|Zv (db (v:=lv) rfl (Below.slT hB hlv) gZ)<|Zv (gQ rfl rfl)<|Zb rfl<|ct<|ZQ rfl (λB=> ?_) λB=> ?_
 refine Zr<|Zb rfl<|ct<|Zt<|cZ (v:= .bool false) rfl ⟨hB,?_⟩
 exact nY (by omega)
 refine cx<|Zq<|Zr<|Zf rfl fW<|ZL lv rfl iU a rfl<|Zv (db (v:=lv) rfl (Below.slT hB hlv) gZ)<|ZZ rfl<|cy ?_
 refine cW (σ:=(Nat)) [2,2,4,4,6,6,44,76] (λk=>[(44, .int .i64 (k:Int))]) (λk W=>(Below w.heap.size w W)∧(At W l _ 24)∧(k≤T.ls.length)∧(∀q,q<k→pK T.ni T.no (T.ls.getD q jH)=true)∧(True)) (λk=>T.ls.length-k) (0) ⟨rfl,trivial⟩ ⟨hB,a,(me _),eO,trivial⟩ ?_
 rintro k O P ⟨hB,a,hk,hq,_⟩ Q C
 refine Zr<|Zv (dq rfl rfl)<|ct<|Zq<|ZQ rfl (λD=> ?_) λD=> ?_
 refine cx<|Zq<|cy ?_
 have hck:=hls.c k (by omega)
 have hbk:=hmb k (by omega)
 have p:(vs.getD k n6).c.m<256∧(vs.getD k n6).c.v<256:=by rw[hck];exact hbk
 refine Zr<|Zv (dp (v:=lv) rfl (Below.slT hB hlv) rfl gZ Om Om)<|Zv (jb rfl gk (dr.cell (Below.slT hB hlv) kd n6 Om Om 0 rfl) (dr.cell (Below.slT hB hlv) kd n6 Om Om 1 rfl) (dr.cell (Below.slT hB hlv) kd n6 Om Om 2 rfl)) ?_
 have d:dr dX 1 w ((vs.getD k n6).o) ((T.ls.getD k jH).os):=hls.o k (by omega)
 refine Zy (cM pq rfl λE R F G b=> ?_)
 have H:=ZO F hB
 obtain⟨hB,a⟩:=G.k2 hB a
 refine Zy (cA rfl rfl gk rfl b rfl (by exact pm (dr.one d)) λS r I=> ?_)
 replace hB:=Zg hB r H
 replace a:=At.grownAt a b r Dd
 replace b:=I
 refine ct<|Zq<|Zr<|Zf rfl wY<|Zv (io rfl dh (At.cell b rfl) (At.cell b rfl))<|Zf rfl f6<|Zl rfl cR a rfl<|ZC (vs:=[.agg #[_,_], .int .i64 _]) D7 (nD (vs.getD k n6).c.m (vs.getD k n6).c.v _ _ p.1 p.2) rfl λU V J K=> ?_
 obtain⟨hB,a,b⟩:=J.k3 hB a b
 obtain rfl:=K
 refine Zv (eK rfl)<|ZX rfl (λe=> ?_) λe=> ?_
 refine Zs<|Zs<|Zs<|Zs<|Zs<|Zs<|Zb rfl<|ct<|cN rfl<|Zr<|Zb rfl<|ct<|Zt<|cZ (v:= .bool false) rfl ?_
 refine⟨hB,?_⟩
 exact uT (k:=k) (by omega) (aa9 (by rw[←hck];exact V1 e))
 refine Zf rfl g7<|ZL ((vs.getD k n6).o) rfl fv b rfl<|Zv (db (v:=(vs.getD k n6).o) rfl (Below.slT hB d) cV)<|Zf rfl gN<|Zl rfl cR a rfl<|Zv (eV rfl rfl)<|Zb rfl<|ct<|ZQ rfl (λf=> ?_) λf=> ?_
 refine Zr<|Zb rfl<|ct<|Zt<|cZ (v:= .bool false) rfl ⟨hB,?_⟩
 exact uT (k:=k) (by omega) (aa8 f)
 refine cx<|Zr<|Zf rfl g7<|ZL ((vs.getD k n6).o) rfl fv b rfl<|Zv (db (v:=(vs.getD k n6).o) rfl (Below.slT hB d) cV)<|ZZ rfl<|cy ?_
 refine cW (σ:=(Nat)) [2,2,6,6,65,75] (λj=>[(65, .int .i64 (j:Int))]) (λj W=>(Below w.heap.size w W)∧(At W l _ 24)∧(At W E _ 37)∧(j≤(T.ls.getD k jH).os.length)∧(∀q,q<j→0≤(T.ls.getD k jH).os.getD q 0∧(T.ls.getD k jH).os.getD q 0<3)∧(True)) (λj=>(T.ls.getD k jH).os.length-j) (0) ⟨rfl,trivial⟩ ⟨hB,a,b,(me _),eO,trivial⟩ ?_
 rintro j X Y ⟨hB,a,b,hj,hqj,_⟩ Z L
 refine Zr<|Zv (dq rfl rfl)<|ct<|Zq<|ZQ rfl (λM=> ?_) λM=> ?_
 refine cx<|Zq<|cy<|Zr<|Zv (dp (v:=(vs.getD k n6).o) rfl (Below.slT hB d) rfl cV Om Om)<|Zv (cD (v:= .int .i64 _) rfl cR (dr.cell (Below.slT hB d) eD 0 Om Om 0 rfl))<|ZZ rfl<|Zr<|Zi rfl<|Zv (dq rfl rfl)<|ZX rfl (λg=> ?_) λg=> ?_
 refine Zs<|Zs<|Zb rfl<|ct<|cN rfl<|Zr<|Zb rfl<|ct<|Zt<|cZ (v:= .bool false) rfl ⟨hB,?_⟩
 exact uT (k:=k) (by omega) (Ym (j:=j) (by omega) (by have h1:(T.ls.getD k jH).os.getD j 0<0:=g;omega))
 refine Zi rfl<|Zv (ky rfl rfl)<|Zb rfl<|ct<|ZQ rfl (λh=> ?_) λh=> ?_
 refine Zr<|Zb rfl<|ct<|Zt<|cZ (v:= .bool false) rfl ⟨hB,?_⟩
 exact uT (k:=k) (by omega) (Ym (j:=j) (by omega) (by have h1:(T.ls.getD k jH).os.getD j 0≥3:=h;omega))
 refine cx ?_
 have aa:¬(T.ls.getD k jH).os.getD j 0<0:=g
 have ab:¬(T.ls.getD k jH).os.getD j 0≥3:=h
 refine ZT rfl rfl rfl ?_
 exact L _ _ (j+1) Za ⟨rfl,trivial⟩ ⟨hB,a,b,Om,(dT hqj Om),trivial⟩ (by show (T.ls.getD k jH).os.length-(j+1)<(T.ls.getD k jH).os.length-j;omega)
 refine cT ?_
 have hqj2:∀q,q<(T.ls.getD k jH).os.length→0≤(T.ls.getD k jH).os.getD q 0∧(T.ls.getD k jH).os.getD q 0<3:=λq hq'=>hqj q (by omega)
 refine ZT rfl rfl rfl ?_
 exact C _ _ (k+1) Za ⟨rfl,trivial⟩ ⟨hB,a,Om,(dT hq (abD (by rw[←hck];exact XT e) (aaS f) hqj2)),trivial⟩ Zo
 refine cT<|Zr<|Zb rfl<|ct<|Zt<|cZ (v:= .bool true) rfl ⟨hB,?_⟩
 exact P1 (by omega) (λq hq'=>hq q (by omega))
end
section
theorem RV (u0 u1 u2:Value) (z:Array Value) (h0:u0.cells= #[u0]) (h1:u1.cells= #[u1]) (h2:u2.cells= #[u2]) (hz:z.size=3):Instr.fill (λi=>some (i*1,1)) z [(0,u0),(1,u1),(2,u2)]=some #[u0,u1,u2]:=by
 rw[fU 1 0 u0 _ z (by rw[h0];rfl) (by omega),fU 1 1 u1 _ _ (by rw[h1];rfl) (by simp[h0];omega),fU 1 2 u2 _ _ (by rw[h2];rfl) (by simp[h0,h1];omega),Instr.fill,h0,h1,h2]
 obtain⟨l⟩:=z
 match l,hz with
 |[a,b,c],_=>simp
theorem Ro (u0 u1 u2 u3:Value) (z:Array Value) (h0:u0.cells= #[u0]) (h1:u1.cells= #[u1]) (h2:u2.cells= #[u2]) (h3:u3.cells= #[u3]) (hz:z.size=4):Instr.fill (λi=>some (i*1,1)) z [(0,u0),(1,u1),(2,u2),(3,u3)]=some #[u0,u1,u2,u3]:=by
 rw[fU 1 0 u0 _ z (by rw[h0];rfl) (by omega),fU 1 1 u1 _ _ (by rw[h1];rfl) (by simp[h0];omega),fU 1 2 u2 _ _ (by rw[h2];rfl) (by simp[h0,h1];omega),fU 1 3 u3 _ _ (by rw[h3];rfl) (by simp[h0,h1,h2];omega),Instr.fill,h0,h1,h2,h3]
 obtain⟨l⟩:=z
 match l,hz with
 |[a,b,c,d],_=>simp
section
variable {P:Program} {f:Nat→Value} {w w':World} {d:Option Nat} {ty:TypeId} {ps:String} {af:Array Edge} {g:Option (Nat×Bool)} {t e T:TypeId} {by_ N sz b:Nat} {K:Value→World→Prop}
theorem TH (hx0:dm f x0=u0) (hx1:dm f x1=u1) (hx2:dm f x2=u2) (hT:fj P t=some (e,1,by_)) (hz:(d4 P e).map (λz=>z.cells.size)=some 1) (h0:u0.cells= #[u0]) (h1:u1.cells= #[u1]) (h2:u2.cells= #[u2])
  (hK:∀b w',b=w.heap.size→dA w w'→At w' b #[u0,u1,u2] e→K (.slice (some ⟨b,0,none⟩) 3 3) w'):Yd P ⟨d, .buildSlice t 3 #[(0,x0),(1,x1),(2,x2)],ty,ps,af,g⟩ f w K:=by
 obtain⟨z,hz,hzs⟩:=an.1 hz
 unfold d4 at hz
 obtain⟨i,hi,hzz⟩:=we.1 hz
 unfold fj at hT
 cases hun:P.underlying t with
 |none=>simp[hun]at hT
 |some desc=>
  cases desc<;>simp[hun]at hT
  rename_i e'
  obtain⟨i',hi',rfl,q1,rfl⟩:=hT
  obtain rfl:i'=i:=by rw[hi]at hi';exact(aaK hi').symm
  refine .val (w':=w.alloc (.cells #[u0,u1,u2] e')) ?_ (hK w.heap.size _ rfl (dA.alloc w _) (lZ w _ _))
  have hf:=RV u0 u1 u2 ((Array.range (3*1)).map (z.cells[·%z.cells.size]!)) h0 h1 h2 fF
  simp only[acQ]at hf
  simp[execOp,hx0,hx1,hx2,Instr.buildSlice,run_underlying hun,sizeOf,typeInfo,hi,q1,zeroValue,hzz,newRow,hf]
theorem KZ (hx0:dm f x0=u0) (hx1:dm f x1=u1) (hx2:dm f x2=u2) (hx3:dm f x3=u3) (hT:fj P t=some (e,1,by_)) (hz:(d4 P e).map (λz=>z.cells.size)=some 1) (h0:u0.cells= #[u0]) (h1:u1.cells= #[u1]) (h2:u2.cells= #[u2]) (h3:u3.cells= #[u3])
  (hK:∀b w',b=w.heap.size→dA w w'→At w' b #[u0,u1,u2,u3] e→K (.slice (some ⟨b,0,none⟩) 4 4) w'):Yd P ⟨d, .buildSlice t 4 #[(0,x0),(1,x1),(2,x2),(3,x3)],ty,ps,af,g⟩ f w K:=by
 obtain⟨z,hz,hzs⟩:=an.1 hz
 unfold d4 at hz
 obtain⟨i,hi,hzz⟩:=we.1 hz
 unfold fj at hT
 cases hun:P.underlying t with
 |none=>simp[hun]at hT
 |some desc=>
  cases desc<;>simp[hun]at hT
  rename_i e'
  obtain⟨i',hi',rfl,q1,rfl⟩:=hT
  obtain rfl:i'=i:=by rw[hi]at hi';exact(aaK hi').symm
  refine .val (w':=w.alloc (.cells #[u0,u1,u2,u3] e')) ?_ (hK w.heap.size _ rfl (dA.alloc w _) (lZ w _ _))
  have hf:=Ro u0 u1 u2 u3 ((Array.range (4*1)).map (z.cells[·%z.cells.size]!)) h0 h1 h2 h3 fF
  simp only[acQ]at hf
  simp[execOp,hx0,hx1,hx2,hx3,Instr.buildSlice,run_underlying hun,sizeOf,typeInfo,hi,q1,zeroValue,hzz,newRow,hf]
end
end
section
def EG (m u i:Nat):UInt8:=if m/2^i%2=0 then 45 else if u/2^i%2=0 then 48 else 49
def qw (m u k:Nat):List UInt8:=(List.range k).map (EG m u)
def vW (m u n k:Nat):List Int:=(List.range n).map λi=>if i<k then ((EG m u i).toNat:Int)else 0
section
variable {m u n k:Nat} {x:Int}
theorem l4 (m u k:Nat):(qw m u k).length=k:=by simp[qw]
theorem zt (m u n k:Nat):(vW m u n k).length=n:=by simp[vW]
theorem MC (m u n:Nat):List.replicate n (0:Int)=vW m u n 0:=by
 refine List.ext_getElem (by simp[vW]) λi h1 h2=> ?_
 simp[vW]
theorem zp (hk:k<n) (hx:x=((EG m u k).toNat:Int)):(vW m u n k).set k x=vW m u n (k+1):=by
 refine List.ext_getElem (by simp[vW]) λi h1 h2=> ?_
 have hi:i<n:=by simpa [vW] using h2
 rw[List.getElem_set]
 by_cases h:k=i
 ·subst h;simp[vW,hx]
 ·rw[if_neg h]
  simp only[vW,List.getElem_map,List.getElem_range]
  omega
theorem OA (m u n:Nat):kY (vW m u n n)=qw m u n:=by
 unfold kY vW qw
 simp_all
theorem Q4 (h:((m/2^k &&& 1:Nat):Int)=0):(45:Int)=((EG m u k).toNat:Int):=by
 rw[tA]at h
 unfold EG
 rw[if_pos (by omega)]
 rfl
theorem aa7 (h:¬((m/2^k &&& 1:Nat):Int)=0) (h2:((u/2^k &&& 1:Nat):Int)=0):(48:Int)=((EG m u k).toNat:Int):=by
 rw[tA]at h h2
 unfold EG
 rw[if_neg (by omega),if_pos (by omega)]
 rfl
theorem abg (h:¬((m/2^k &&& 1:Nat):Int)=0) (h2:¬((u/2^k &&& 1:Nat):Int)=0):(49:Int)=((EG m u k).toNat:Int):=by
 rw[tA]at h h2
 unfold EG
 rw[if_neg (by omega),if_neg (by omega)]
 rfl
def CH:List (List UInt8):=[[48],[49],[45]]
theorem B7:CH.length=3:=rfl
theorem Md:(aaI m u).length=8:=Ak m u 8
end
def HS (x:Int):UInt8:=if x=0 then 48 else if x=1 then 49 else 45
def lR (os:List Int):List UInt8:=os.map HS
def zo (m u:Nat) (n:Int) (os:List Int):List UInt8:=(qw m u n.toNat++[32])++lR os
section
variable {m u n k:Nat} {x:Int} {os:List Int} {a:List UInt8}
theorem pG (os:List Int):(lR os).length=os.length:=by simp[lR]
theorem LK (hk:k<os.length):lR (os.take (k+1))=lR (os.take k)++[HS (os.getD k 0)]:=by
 grind [lR,List.take_add_one,List.getElem?_eq_getElem]
theorem Me {q:Nat} (hq:x=(q:Int)) (h:q<3):(([48,49,45]:List UInt8).drop q).take (q+1-q)=[HS x]:=by
 subst hq
 have:q=0∨q=1∨q=2:=by omega
 rcases this with rfl|rfl|rfl<;>rfl
theorem IL (hk:k<os.length) {q:Nat} (hq:os.getD (k:Int).toNat 0=(q:Int)) (h:q<3):ea ((a++lR (os.take k))++(([48,49,45]:List UInt8).drop q).take (q+1-q))=ea (a++lR (os.take (k+1))):=by
 grind [Me,Int.toNat_natCast,LK,List.append_assoc]
theorem Xf:ea a=ea (a++lR (os.take 0)):=by simp[lR]
theorem zV:(lR (os.take k)).length≤os.length:=by grind [pG,List.length_take]
end
def gr:List (List UInt8):=[[102],[102,100],[102,114],[102,100,114]]
theorem mp:gr.length=4:=rfl
theorem w6 (k:Nat):(gr.getD k []).length≤3:=by
 match k with
 |0|1|2|3=>decide
 |_+4=>exact me 3
def GG (T:Tb):List UInt8:=([46,105,32]++iv T.ni.toNat++[10,46,111,32]++iv T.no.toNat++[10,46,116,121,112,101,32]++gr.getD T.kind.toNat []++[10,46,112,32]++iv T.ls.length)++[10]
def wr (ni:Int) (l:Ln):List UInt8:=zo l.c.m l.c.v ni l.os
def ja (T:Tb):Nat→List UInt8
 |0=>GG T
 |k+1=>(ja T k++wr T.ni (T.ls.getD k jH))++[10]
def js (T:Tb):List UInt8:=ja T T.ls.length++[46,101,10]
section
variable {T:Tb} {k j:Nat} {n:Int}
theorem iV (h:fy T=true):0≤T.kind∧T.kind≤3∧0≤T.ni∧T.ni≤8∧1≤T.no∧T.no≤4∧T.ls.length≤64:=by
 unfold fy at h
 grind
theorem pu (h:fy T=true) (hk:k<T.ls.length):pK T.ni T.no (T.ls.getD k jH)=true:=by
 unfold fy at h
 grind
theorem nZ:pK ni no l=true↔dS l.c.m l.c.v ni=true∧(l.os.length:Int)=no∧∀x,x∈l.os→0≤x∧x<3:=by
 unfold pK E0
 simp[and_assoc]
theorem yO (h0:0≤n) (h:n<100):Lib.itoa n=iv n.toNat:=by
 grind [Int.eq_ofNat_of_zero_le,wP]
theorem Lv (T:Tb):(GG T).length≤40:=by
 grind [GG,uN,w6,List.length_append,List.length_cons,List.length_nil]
theorem Kt (h:pK ni no l=true) (hn:ni≤8) (ho:no≤4):(wr ni l).length≤13:=by
 grind [nZ,wr,zo,List.length_append,List.length_cons,List.length_nil,l4,pG]
theorem oQ (h:fy T=true):∀k,k≤T.ls.length→(ja T k).length≤40+14*k
 |0,_=>by have:=Lv T;simpa [ja] using this
 |k+1,hk=>by
  have ih:=oQ h k (by omega)
  obtain⟨_,_,_,h8,_,h4,_⟩:=iV h
  have hl:=Kt (pu h (show k<T.ls.length by omega)) h8 h4
  rw[ja]
  simp only[An,aaW,acG]
  omega
theorem FJ (hc:c=(T.ls.getD k jH).c) (hj:j=(T.ls.getD k jH).os.length):ea (((ja T k++(qw c.m c.v T.ni.toNat++[32]))++lR ((T.ls.getD k jH).os.take j))++[10])=ea (ja T (k+1)):=by
 grind [ja,wr,zo,List.take_length,List.append_assoc]
theorem WM (hq:q=T.ls.length):ea (([46,105,32]++iv T.ni.toNat++[10,46,111,32]++iv T.no.toNat++[10,46,116,121,112,101,32]++gr.getD T.kind.toNat []++[10,46,112,32]++iv (q:Int).toNat)++[10])=ea (ja T 0):=by
 subst hq;rfl
theorem Io (hq:q=T.ls.length) (h0:0≤T.ni) (h1:T.ni<100) (h2:0≤T.no) (h3:T.no<100) (h4:q<100):ea (([46,105,32]++Lib.itoa T.ni++[10,46,111,32]++Lib.itoa T.no++[10,46,116,121,112,101,32]++gr.getD T.kind.toNat []++[10,46,112,32]++Lib.itoa (q:Int))++[10])=ea (ja T 0):=by
 rw[yO h0 h1,yO h2 h3,yO (by omega) (by omega)]
 exact WM hq
theorem zj (h0:0≤n) (h:n<100):(Lib.itoa n).length≤2:=by grind [yO,uN]
end
end
section
theorem kD:fj Tryz.prog 177=some (5,1,1):=by kernel_rfl
theorem z8:(d4 Tryz.prog 5).map (λz=>z.cells.size)=some 1:=by kernel_rfl
theorem jO:fj Tryz.prog 64=some (9,1,16):=by kernel_rfl
theorem Ib:(d4 Tryz.prog 9).map (λz=>z.cells.size)=some 1:=by kernel_rfl
theorem ip (b:Bool) (w:World):
    Fn Tryz.prog 123 #[.bool b] w λv w'=>v= .int .i64 (if b=true then 0 else 2):=by
 refine cK (n:=4) Tryz.func123 rfl rfl rfl λhB=> ?_
 refine Zr<|ZZ rfl<|Zq<|Zr<|Zb rfl<|ct<|ZQ rfl (λa=> ?_) λa=> ?_
 refine Zr<|ZZ rfl<|Zt<|cZ (v:= .int .i64 0) rfl ⟨hB,?_⟩
 rw[if_pos a]
 refine cx<|Zr<|ZZ rfl<|Zt<|cZ (v:= .int .i64 2) rfl ⟨hB,?_⟩
 rw[if_neg (by rw[a];decide)]
theorem qa (n:Nat) (w:World) (hn:n<100):
    Fn Tryz.prog 88 #[.int .i64 (n:Int)] w λv w'=>v=ea (iv n):=by
 refine cK (n:=21) Tryz.func88 rfl rfl rfl λhB=> ?_
 refine Zr<|Zw (.string _) rfl<|ct<|Zr<|Zi rfl<|Zv (H6 (n:=10) rfl rfl rfl Om)<|Zv (d5 rfl rfl Om Om)<|Zv (iP (m:=48+n%10) rfl Tryz.underlying3 Tryz.underlying5 pX)<|Zy (ez (u:= .int .u8 _) rfl kD z8 rfl Dd Dd λb W5 c d e=> ?_)
 have f:=ZO c hB
 replace hB:=Ze hB d
 have g:=jf (enc:=yg) (a:=((48+n%10:Nat):Int)) e rfl rfl f
 refine Zv (qF (v:= .slice (some ⟨b,0,none⟩) 1 1) rfl g.sl Tryz.underlying177 Tryz.underlying5 Tryz.underlying9)<|Zw (ea _) rfl<|ct<|Zq<|Zr<|Zi rfl<|Zv (dq rfl rfl)<|ct<|ZQ rfl (λh=> ?_) λh=> ?_
 refine Zr<|Zw (ea _) rfl<|Zw (ea _) rfl<|ct<|Zt<|cZ (v:=ea _) rfl ⟨hB,?_⟩
 exact congrArg ea (YY Om)
 refine cx<|Zr<|Zi rfl<|Zv (Hv (n:=10) rfl rfl rfl Om vl)<|Zv (d5 rfl rfl Om Om)<|Zv (iP (m:=48+n/10) rfl Tryz.underlying3 Tryz.underlying5 pX)<|Zy (ez (u:= .int .u8 _) rfl kD z8 rfl Dd Dd λi q j k l=> ?_)
 have o:=ZO j hB
 replace hB:=Ze hB k
 have p:=jf (enc:=yg) (a:=((48+n/10:Nat):Int)) l rfl rfl o
 refine Zv (qF (v:= .slice (some ⟨i,0,none⟩) 1 1) rfl p.sl Tryz.underlying177 Tryz.underlying5 Tryz.underlying9)<|Zw (ea _) rfl<|Zv (gP rfl rfl (by simp[kY]))<|Zw (.string _) rfl<|ct<|Zt<|cZ (v:= .string _) rfl ⟨hB,?_⟩
 exact congrArg ea (Yj Om)
theorem xg (w:World):
    Fn Tryz.prog 56 #[] w λv w'=>cH ya 1 9 w' w.heap.size v gr:=by
 refine cK (n:=2) Tryz.func56 rfl rfl rfl λhB=> ?_
 refine Zr<|Zw (.slice none 0 0) rfl<|ct<|Zr<|Zy (KZ rfl rfl rfl rfl jO Ib rfl rfl rfl rfl λa W5 b c d=> ?_)
 have e:=ZO b hB
 replace hB:=Ze hB c
 have f:cH ya 1 9 W5 w.heap.size (.slice (some ⟨a,0,none⟩) 4 4) gr:=yz (l:=gr) d e iW (by decide)
 refine Zw (.slice (some ⟨a,0,none⟩) 4 4) rfl<|ct<|Zt<|cZ (v:= .slice (some ⟨a,0,none⟩) 4 4) rfl ⟨hB,?_⟩
 exact f
theorem qn (w:World):
    Fn Tryz.prog 89 #[] w λv w'=>cH ya 1 9 w' w.heap.size v gr:=by
 refine cK (n:=2) Tryz.func89 rfl rfl rfl λhB=> ?_
 refine Zr<|Zw (.slice none 0 0) rfl<|ct<|Zr<|Zy (KZ rfl rfl rfl rfl jO Ib rfl rfl rfl rfl λa W5 b c d=> ?_)
 have e:=ZO b hB
 replace hB:=Ze hB c
 have f:cH ya 1 9 W5 w.heap.size (.slice (some ⟨a,0,none⟩) 4 4) gr:=yz (l:=gr) d e iW (by decide)
 refine Zw (.slice (some ⟨a,0,none⟩) 4 4) rfl<|ct<|Zt<|cZ (v:= .slice (some ⟨a,0,none⟩) 4 4) rfl ⟨hB,?_⟩
 exact f
end
end Go.Proofs.YtedeonkjellcpaaGreatDoor
