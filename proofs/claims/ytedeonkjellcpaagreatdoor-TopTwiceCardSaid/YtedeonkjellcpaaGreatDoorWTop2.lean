/- Words and walks of the row. No condition. -/
import Derived.Test.YtedeonkjellcpaaGreatDoorWRun4
namespace Go.Proofs.YtedeonkjellcpaaGreatDoor
open Go Go.RowKit
set_option autoImplicit true
set_option relaxedAutoImplicit true
set_option linter.unusedVariables false
set_option linter.unusedSimpArgs false
section
section
variable {s line:List UInt8} {i k:Nat}
theorem sL (hi:i<s.length):(iJ s).getD i 0=rW (gg s i):=by
 grind [iJ,gg,List.getElem?_eq_getElem]
theorem py:kX b=true↔b=45∨b=48∨b=49:=by
 unfold kX
 grind
theorem FW (h:kX b=true):rW b=0∨rW b=1∨rW b=2:=by
 grind [rW,py]
theorem Ia (h8:s.length≤8) (h:∀q,q<s.length→kX (gg s q)=true):Rh (iJ s):=
 ⟨by rw[mu];exact h8,λq hq=>by
  rw[mu]at hq
  rw[sL hq]
  exact FW (h q hq)⟩
theorem CI (h:∀q,q<s.length→kX (gg s q)=true):∀k,k≤s.length→kZ (iJ s) k=A8 s k∧ou (iJ s) k=Ap s k
 |0,_=>⟨rfl,rfl⟩
 |k+1,hk=>by
  obtain⟨i1,i2⟩:=CI h k (by omega)
  have hlm:=y5 s k
  have hlv:=DT s k
  have om:A8 s k ||| 1*2^k=A8 s k+2^k:=by
   have e:=acu hlm 1
   rw[acQ]at e
   rw[abJ,Nat.or_comm,←e,Nat.add_comm]
  have ov:Ap s k ||| 1*2^k=Ap s k+2^k:=by
   have e:=acu hlv 1
   rw[acQ]at e
   rw[abJ,Nat.or_comm,←e,Nat.add_comm]
  rcases py.1 (h k (by omega))with hb|hb|hb
  ·have e:(iJ s).getD k 0=2:=by rw[sL (by omega),hb];rfl
   obtain⟨m1,m2⟩:=ua (l:=iJ s) (k:=k) (by rw[e];decide)
   rw[m1,m2,i1,i2,A8,Ap,if_neg (by omega),if_neg (by omega)]
   exact⟨rfl,rfl⟩
  ·have e:(iJ s).getD k 0=((0:Nat):Int):=by rw[sL (by omega),hb];rfl
   obtain⟨m1,m2⟩:=qp e (by decide)
   rw[m1,m2,i1,i2,A8,Ap,if_pos (.inl hb),if_neg (by omega),om,Nat.mul_zero,ac7]
   exact⟨rfl,rfl⟩
  ·have e:(iJ s).getD k 0=((1:Nat):Int):=by rw[sL (by omega),hb];rfl
   obtain⟨m1,m2⟩:=qp e (by decide)
   rw[m1,m2,i1,i2,A8,Ap,if_pos (.inr hb),if_pos hb,om,ov,acQ]
   exact⟨rfl,rfl⟩
theorem Mr (h:∀q,q<s.length→kX (gg s q)=true):kZ (iJ s) (iJ s).length=(ph s).m∧ou (iJ s) (iJ s).length=(ph s).v:=by
 rw[mu]
 exact CI h _ (am _)
theorem tD (hi:i<s.length) (hx:rW (gg s i)=x):iJ (s.take i)++[x]=iJ (s.take (i+1)):=by grind [qJ]
theorem zP:∀s:List UInt8,(32:UInt8)∉s→Lib.index s [32]= -1
 |[],_=>rfl
 |c::s,h=>by
  have h1:c≠32:=λe=>h XA
  have ih:=zP s (λe=>h (abe _ e))
  have hp:([32]:List UInt8).isPrefixOf (c::s)=false:=by simp[List.isPrefixOf,Ne.symm h1]
  rw[Lib.index,hp,ih]
  rfl
theorem Qc (h:(32:UInt8)∉s):Lib.cut s [32]=(s,[],false):=by
 unfold Lib.cut
 rw[zP s h,if_neg (by decide)]
theorem E1 (h:(Lib.cut s [32]).2.2=true):s=(Lib.cut s [32]).1++32::(Lib.cut s [32]).2.1:=by
 by_cases hm:(32:UInt8)∈s
 ·obtain⟨a,b,e,ha⟩:=List.eq_append_cons_of_mem hm
  have:=D4 (a:=a) (b:=b) ha
  rw[←e]at this
  rw[this]
  exact e
 all_goals grind [Qc]
theorem W0 (hi:i<s.length) (h:gg s i=32):s[i]=32:=by
 unfold gg at h
 rw[Do,th hi]at h
 exact UInt8.toNat_inj.1 h
theorem AQ:gg (s.drop n) q=gg s (n+q):=by
 grind [gg]
theorem Fv (h:jw s=true):(32:UInt8)∉s:=λhm=>by
 obtain⟨q,hq,e⟩:=List.getElem_of_mem hm
 unfold jw at h
 rw[so]at h
 have h2:=aa1.1 h.2 q (acp.2 hq)
 have e2:gg s q=32:=by
  unfold gg
  rw[Do,th hq,e]
  rfl
 rw[e2]at h2
 cases h2
theorem AR (hl:ni<line.length) (h:gg line ni=32):line=line.take ni++32::line.drop (ni+1):=by
 grind [W0,List.drop_eq_getElem_cons,List.take_append_drop]
theorem vT {ni no:Nat}:gR (ni:Int) (no:Int) line=true↔line.length=ni+1+no∧jw (line.take ni)=true∧gg line ni=32∧∀q,q<(line.drop (ni+1)).length→kX (gg (line.drop (ni+1)) q)=true:=by
 rw[sS]
 constructor
 ·rintro⟨h1,h2,h3,h4,h5⟩
  have e:=E1 h1
  generalize (Lib.cut line [32]).1=a at*
  generalize (Lib.cut line [32]).2.1=b at*
  have ha:a.length=ni:=by omega
  have hb:b.length=no:=by omega
  subst e
  have e1:(a++32::b).take ni=a:=by rw[←ha];exact List.take_left
  have e2:(a++32::b).drop (ni+1)=b:=by
   rw[show a++32::b=(a++[32])++b by simp,show ni+1=(a++[32]).length by simp[ha]]
   exact List.drop_left
  refine⟨by simp;omega,by rw[e1];exact h2,?_,by rw[e2];exact h5⟩
  unfold gg
  rw[Do,←ha,acE (am _),Nat.sub_self]
  rfl
 all_goals grind [AR,D4,Fv,List.length_take,List.length_drop]
theorem MY {ni no:Nat} (h:gR (ni:Int) (no:Int) line=true):pN line=⟨ph (line.take ni),iJ (line.drop (ni+1))⟩:=by
 grind [vT,AR,D4,Fv,pN]
def Pc (b:Nat):Nat→Int
 |0=>3
 |m+1=>if [UInt8.ofNat b]=CH.getD m []then (m:Int)else Pc b m
theorem J2:∀b,b<256→Pc b 3=if kX b=true then rW b else 3:=by decide+kernel
theorem aam (h:[UInt8.ofNat b]=CH.getD m []):(m:Int)=Pc b (m+1):=(if_pos h).symm
theorem ZY (h:¬[UInt8.ofNat b]=CH.getD m []):Pc b m=Pc b (m+1):=(if_neg h).symm
theorem G8 (h:k<s.length):(s.drop k).take (k+1-k)=[UInt8.ofNat (gg s k)]:=by
 have e:gg s k=s[k].toNat:=by
  unfold gg
  rw[Do,th h]
  rfl
 rw[show k+1-k=1 by omega,List.drop_eq_getElem_cons h,e,UInt8.ofNat_toNat]
 rfl
theorem aaM (hb:b<256) (h:¬Pc b 3=3):kX b=true∧Pc b 3=rW b:=by
 rw[J2 b hb]at h ⊢
 grind
theorem abW (hb:b<256) (h:Pc b 3=3):kX b=false:=by
 rw[J2 b hb]at h
 cases hc:kX b with
 |false=>rfl
 |true=>
  rw[hc,if_pos rfl]at h
  rcases FW hc with e|e|e<;>rw[e]at h<;>cases h
end
section
variable {line word:List UInt8} {lo hi:Int} {n:Nat}
theorem VS (hn:n<100) (h:line=word++32::iv n) (h1:lo≤n) (h2:(n:Int)≤hi):fJ line word lo hi=n:=by
 unfold fJ
 rw[tu hn h]
 grind
theorem WQ (h:∀q:Nat,lo≤q→(q:Int)≤hi→¬line=word++32::iv q):fJ line word lo hi= -1:=by
 unfold fJ
 cases hk:y4 line word with
 |none=>rfl
 |some q=>
  obtain⟨_,h2⟩:=F5.1 hk
  simp only
  by_cases hc:lo≤q∧(q:Int)≤hi
  ·exact absurd h2 (h q hc.1 hc.2)
  ·rw[if_neg hc]
end
def pb (l:List UInt8):Nat→Int
 |0=> -1
 |k+1=>if l=ie++gr.getD k []then (k:Int)else pb l k
section
variable {r:Rd} {l:List UInt8}
theorem Pr (h:l=ie++gr.getD k []):(k:Int)=pb l (k+1):=(if_pos h).symm
theorem Jb (h:¬l=ie++gr.getD k []):pb l k=pb l (k+1):=(if_neg h).symm
theorem C5:∀k,0≤pb l k→∃q,q<k∧l=ie++gr.getD q []∧pb l k=q
 |0,h=>absurd h (show ¬(0:Int)≤-1 by decide)
 |k+1,h=>by
  by_cases hc:l=ie++gr.getD k []
  ·exact⟨k,by omega,hc,(Pr hc).symm⟩
  ·rw[←Jb hc]at h
   obtain⟨q,h1,h2,h3⟩:=C5 k h
   exact⟨q,by omega,h2,by rw[←Jb hc];exact h3⟩
theorem Nb:∀k,pb l k<0→∀q,q<k→¬l=ie++gr.getD q []
 |0,_,q,hq=>by cases hq
 |k+1,h,q,hq=>by
  by_cases hc:l=ie++gr.getD k []
  ·rw[←Pr hc]at h;omega
  ·rw[←Jb hc]at h
   rcases aaU.1 hq with h1|rfl
   ·exact Nb k h q h1
   ·exact hc
theorem Hm (h:l=46::b) (ni no:Int):gR ni no l=false:=aaT.2 λk=>by
 obtain⟨h1,h2,h3,h4,h5⟩:=sS.1 k
 have e:=E1 h1
 generalize (Lib.cut l [32]).1=a at*
 cases a with
 |nil=>
  rw[h]at e
  have:=(acP e).1
  cases this
 |cons c a=>
  rw[h]at e
  have e1:=(acP e).1
  unfold jw at h2
  rw[so]at h2
  have:=aa1.1 h2.2 0 (acp.2 fF)
  rw[←e1]at this
  cases this
theorem CP (h:Lib.hasPrefix l ie=true):∃b,l=46::b:=by
 obtain⟨r,hr⟩:=mD.1 h
 exact⟨_,hr⟩
theorem zd {lo hi:Int} (h0:0≤lo) (h:fJ l [46,a] lo hi≥0):∃q,l=[46,a]++32::iv q:=by
 unfold fJ at h
 cases hk:y4 l [46,a]with
 |none=>rw[hk]at h;exact absurd h (show ¬(-1:Int)≥0 by decide)
 |some q=>exact⟨q,(F5.1 hk).2⟩
theorem BL (h:Lib.hasPrefix l ie=true):¬fJ l [46,112] 0 64≥0:=λk=>by
 obtain⟨r,hr⟩:=mD.1 h
 obtain⟨q,hq⟩:=zd (by decide) k
 rw[hr]at hq
 have:=(acP (acP hq).2).1
 cases this
theorem CK (h:Lib.hasPrefix l ie=true):¬l=[46,101]:=λk=>by
 obtain⟨r,hr⟩:=mD.1 h
 rw[hr]at k
 have:=(acP (acP k).2).1
 cases this
theorem BW (h:fJ l [46,112] 0 64≥0):¬Lib.hasPrefix l ie=true:=λk=>BL k h
theorem N1 (h:fJ l [46,112] 0 64≥0):¬l=[46,101]:=λk=>by
 obtain⟨q,hq⟩:=zd (by decide) h
 rw[k]at hq
 have:=(acP (acP hq).2).1
 cases this
theorem UV (h:fJ l [46,112] 0 64≥0):∃b,l=46::b:=by
 obtain⟨q,hq⟩:=zd (by decide) h
 grind
theorem abb (h2:r.st=2) (hi:k<4) (h:l=ie++gr.getD k []):fi r l=(⟨{r.T with kind:=(k:Int)},3,r.told⟩,0):=by grind [WI,mD,qz]
theorem Yr (h3:3≤r.st) (h4:r.st≤4) (hi:k<4) (h:l=ie++gr.getD k []):(fi r l).2=2:=by
 grind [ie,mD,CP,K8,BL,CK,Hm]
theorem abX (h2:2≤r.st) (h3:r.st≤3) (h:fJ l [46,112] 0 64≥0):fi r l=(⟨r.T,4,fJ l [46,112] 0 64⟩,0):=by grind [WE,BW]
theorem aad (h4:r.st=4) (h:fJ l [46,112] 0 64≥0):(fi r l).2=2:=by
 grind [UV,K8,BW,N1,Hm]
theorem ZJ (h2:2≤r.st) (h4:r.st≤4) (h:l=[46,101]):fi r l=(⟨r.T,5,r.told⟩,J3 (decide (r.told<0)||decide (r.told=(r.T.ls.length:Int)))):=
 R8 (by omega) (by omega) (by omega) (λe=>CK e.1 h) (λe=>N1 e.1 h) h
theorem ZV (h2:2≤r.st) (h4:r.st≤4) (hr:gR r.T.ni r.T.no l=true):fi r l=(⟨{r.T with ls:=r.T.ls++[pN l]},4,r.told⟩,if r.T.ls.length=64 then 3 else 0):=by
 have hd:∀b,¬l=46::b:=λb e=>by rw[Hm e]at hr;cases hr
 exact S0 (by omega) (by omega) (by omega) (λe=>by obtain⟨b,hb⟩:=CP e.1;exact hd b hb) (λe=>by obtain⟨b,hb⟩:=UV e.1;exact hd b hb) (λe=>hd _ e) hr
theorem abM (h2:2≤r.st) (h4:r.st≤4) (hk:pb l 4<0) (hn:¬fJ l [46,112] 0 64≥0) (he:¬l=[46,101]) (hr:gR r.T.ni r.T.no l=false):(fi r l).2=2:=by
 grind [ie,U3,mD,qz,Nb,K8]
theorem aa2 (h:r.st=5):(fi r l).2=2:=by grind [Y9]
end
section
variable {s l:List UInt8} {A:List (List UInt8)} {b:UInt8}
theorem mt:∀(p r:List UInt8) (A:List (List UInt8)) (c:List UInt8),cQ p=A++[c]→∃h t,cQ r=h::t∧cQ (p++r)=A++(c++h)::t
 |[],r,A,c,h=>by
  have hA:A=[]∧c=[]:=by
   rw[cQ]at h
   cases A with
   |nil=>simp at h;exact⟨rfl,h⟩
   |cons a A=>simp at h
  obtain⟨rfl,rfl⟩:=hA
  cases hr:cQ r with
  |nil=>exact absurd hr (mm r)
  |cons x t=>exact⟨x,t,rfl,by simp[hr]⟩
 |a::p,r,A,c,h=>by
  by_cases ha:a=10
  ·subst ha
   rw[cQ,if_pos rfl]at h
   cases A with
   |nil=>
    simp at h
    exact absurd h.2 (mm p)
   |cons x A=>
    simp at h
    obtain⟨h0,h1⟩:=h
    obtain⟨y,t,e1,e2⟩:=mt p r A c h1
    refine⟨y,t,e1,?_⟩
    rw[acB,cQ,if_pos rfl,e2,←h0]
    rfl
  ·rw[cQ,if_neg ha]at h
   cases hp:cQ p with
   |nil=>exact absurd hp (mm p)
   |cons x u=>
    rw[hp]at h
    simp only at h
    cases A with
    |nil=>
     simp at h
     obtain⟨h0,h1⟩:=h
     obtain⟨y,t,e1,e2⟩:=mt p r [] x (by rw[hp,h1];rfl)
     refine⟨y,t,e1,?_⟩
     rw[acB,cQ,if_neg ha,e2]
     simp[←h0]
    |cons z A=>
     simp at h
     obtain⟨h0,h1⟩:=h
     obtain⟨y,t,e1,e2⟩:=mt p r (x::A) c (by rw[hp,h1];rfl)
     refine⟨y,t,e1,?_⟩
     rw[acB,cQ,if_neg ha,e2]
     simp[←h0]
theorem Cy (b:UInt8):cQ [b]=if b=10 then [[],[]]else [[b]]:=by
 by_cases hb:b=10
 ·rw[if_pos hb];subst hb;rfl
 ·rw[if_neg hb,cQ,if_neg hb];rfl
theorem vC (hi:i<s.length) (h:cQ (s.take i)=A++[l]) (hb:gg s i=10):cQ (s.take (i+1))=(A++[l])++[[]]:=by
 obtain⟨x,t,e1,e2⟩:=mt (s.take i) [s[i]] A l h
 have hb2:s[i]=10:=by
  unfold gg at hb
  rw[Do,th hi]at hb
  exact UInt8.toNat_inj.1 hb
 rw[Cy,if_pos hb2]at e1
 grind [List.cons.inj,List.take_add_one,List.getElem?_eq_getElem,cQ]
theorem QE (hi:i<s.length) (h:cQ (s.take i)=A++[l]) (hb:¬gg s i=10):cQ (s.take (i+1))=A++[l++(s.drop i).take (i+1-i)]:=by
 obtain⟨x,t,e1,e2⟩:=mt (s.take i) [s[i]] A l h
 have hb2:¬s[i]=10:=λe=>hb (by
  unfold gg
  rw[Do,th hi,e]
  rfl)
 rw[Cy,if_neg hb2]at e1
 grind [List.cons.inj,List.take_add_one,List.getElem?_eq_getElem,cQ,List.drop_eq_getElem_cons]
theorem MB (h:cQ (s.take i)=A++[l]):∃x t,cQ s=A++x::t:=by
 obtain⟨x,t,_,e2⟩:=mt (s.take i) (s.drop i) A l h
 simp_all
theorem Lw (hi:i<s.length) (h:cQ (s.take i)=A++[l]) (hb:gg s i=10):(cQ s).getD A.length []=l∧A.length+1<(cQ s).length:=by
 obtain⟨x,t,e⟩:=MB (vC hi h hb)
 grind
theorem Lc (h:cQ (s.take s.length)=A++[l]):(cQ s).length=A.length+1∧(cQ s).getD A.length []=l:=by
 grind
end
def xv (st:Int):Int:=if st=5 then 6 else st
theorem Rp (h0:0≤r.st) (h5:r.st≤5):0≤(fi r l).1.st∧(fi r l).1.st≤5:=by
 grind [fi]
theorem G1 (ls:List (List UInt8)):∀k,k≤ls.length→0≤(iD ls k).st∧(iD ls k).st≤5
 |0,_=>⟨by show (0:Int)≤0;decide,by show (0:Int)≤5;decide⟩
 |k+1,h=>by
  obtain⟨h0,h5⟩:=G1 ls k (by omega)
  rw[mM (by omega)]
  cases hs:oR (ls.getD k [])with
  |true=>rw[(jd hs).1];exact⟨h0,h5⟩
  |false=>rw[(fQ hs).1];exact Rp h0 h5
theorem Ay (h:(cQ s).getD A.length []=l∧A.length+1<(cQ s).length):iD (cQ s) (A++[l]).length=kW (iD (cQ s) A.length) l:=by
 grind [List.length_append,List.length_singleton,mM]
theorem DJ (herr:∀q,q<A.length→lx (iD (cQ s) q) ((cQ s).getD q [])=0) (h:(cQ s).getD A.length []=l∧A.length+1<(cQ s).length) (he:lx (iD (cQ s) A.length) l=0):
  ∀q,q<(A++[l]).length→lx (iD (cQ s) q) ((cQ s).getD q [])=0:=by grind
def uI (r:Rd) (l:List UInt8) (r2:Rd) (e:Int):Prop:=e=(fi r l).2∧(e=0→r2=(fi r l).1)
theorem adS (h:(fi r l).2=e) (he:e≠0):uI r l r2 e:=⟨h.symm,λk=>absurd k he⟩
theorem adZ (h:fi r l=(r2,e)):uI r l r2 e:=by
 grind [uI]
section
variable {r:Rd} {l:List UInt8}
theorem abv (h:xv r.st=0):r.st=0:=by grind [xv]
theorem aa6 (h:xv r.st=1):r.st=1:=by grind [xv]
theorem abu (h:xv r.st=2):r.st=2:=by grind [xv]
theorem Wb (h:xv r.st<4):r.st<4:=by grind [xv]
theorem aal (h5:r.st≤5) (h:¬xv r.st<6):r.st=5:=by grind [xv]
theorem aaq (h0:0≤r.st) (h:xv r.st<6) (n0:¬xv r.st=0) (n1:¬xv r.st=1):2≤r.st∧r.st≤4:=by
 grind [xv]
theorem Yt (h:xv r.st=0) (he:e=J3 (decide (fJ l [46,105] 0 8≥0))):uI r l ⟨{r.T with ni:=fJ l [46,105] 0 8},1,r.told⟩ e:=by
 grind [adZ,Wh,abv]
theorem Zu (h:xv r.st=1) (he:e=J3 (decide (fJ l [46,111] 1 4≥0))):uI r l ⟨{r.T with no:=fJ l [46,111] 1 4},2,r.told⟩ e:=by
 grind [aa6,adZ,Xd]
theorem X2 {p:Prop} [Decidable p] (h:p):(0:Int)=J3 (decide p):=by rw[decide_eq_true h];rfl
theorem aas {p:Prop} [Decidable p] (h:¬p):(2:Int)=J3 (decide p):=by rw[decide_eq_false h];rfl
theorem aa3 (h5:r.st≤5) (h:¬xv r.st<6):uI r l r2 2:=by grind [adS,aa2,aal]
theorem abn (h:xv r.st=2) (hk:pb l 4≥0):uI r l ⟨{r.T with kind:=pb l 4},3,r.told⟩ 0:=by
 grind [C5,adZ,abb,abu]
theorem ZB (hs:2≤r.st∧r.st≤4) (h:¬xv r.st=2) (hk:pb l 4≥0):uI r l r2 2:=by
 grind [C5,adS,Yr,xv]
theorem abl (hs:2≤r.st∧r.st≤4) (h:xv r.st<4) (hn:fJ l [46,112] 0 64≥0):uI r l ⟨r.T,4,fJ l [46,112] 0 64⟩ 0:=by grind [adZ,abX,Wb]
theorem YB (hs:2≤r.st∧r.st≤4) (h:¬xv r.st<4) (hn:fJ l [46,112] 0 64≥0):uI r l r2 2:=by grind [adS,aad,xv]
theorem Z3 (hs:2≤r.st∧r.st≤4) (h:l=[46,101]) (hb:r.told<0∨r.told=(r.T.ls.length:Int)):uI r l ⟨r.T,5,r.told⟩ 0:=by grind [adZ,ZJ,K5]
theorem YH (hs:2≤r.st∧r.st≤4) (h:l=[46,101]) (h1:¬r.told<0) (h2:¬r.told=(r.T.ls.length:Int)):uI r l r2 2:=
 adS (by rw[ZJ hs.1 hs.2 h,decide_eq_false h1,decide_eq_false h2];rfl) (by decide)
theorem abp (hs:2≤r.st∧r.st≤4) (hr:gR r.T.ni r.T.no l=true) (hl:¬r.T.ls.length≥64):uI r l ⟨{r.T with ls:=r.T.ls++[pN l]},4,r.told⟩ 0:=
 adZ (by rw[ZV hs.1 hs.2 hr,if_neg (by omega)])
theorem X8 (hs:2≤r.st∧r.st≤4) (hr:gR r.T.ni r.T.no l=true) (h64:r.T.ls.length≤64) (hl:r.T.ls.length≥64):uI r l r2 3:=
 adS (by rw[ZV hs.1 hs.2 hr,if_pos (by omega)]) (by decide)
theorem abj (hs:2≤r.st∧r.st≤4) (hk:¬pb l 4≥0) (hn:¬fJ l [46,112] 0 64≥0) (he:¬l=[46,101]) (hr:gR r.T.ni r.T.no l=false):uI r l r2 2:=by grind [adS,abM]
end
section
variable {P:Program} {f:Nat→Value} {w:World} {d:Option Nat} {ty:TypeId} {ps:String} {af:Array Edge} {g:Option (Nat×Bool)} {x:Operand} {t:TypeId}
theorem Hj {a:List UInt8} {kj:IntKind} {j:Nat} {xj:Operand} (hx:dm f x=ea a) (hj:dm f xj= .int kj (j:Int)) (ht:P.underlying t=some .string) (h2:j≤a.length):
  (execOp (dm f) ⟨d, .slice t x none (some xj) none,ty,ps,af,g⟩).run P w= .ok (.value (ea (a.take j))) w:=by
 unfold ea at hx
 have h:=run_slice_string_h (P:=P) w t ⟨a.toArray⟩ ht kj (j:Int) (by omega) (by simp[ByteArray.size];exact h2)
 rw[my,ByteArray.extract_mk]at h
 simp[execOp,hx,hj,run_sliceAt_string w t _ _ _ _ ht,h,ea]
end
theorem RQ {s:List UInt8} {v:Value} (h:v=if jw s=true then .tuple #[.agg #[.int .u8 ((ph s).m:Int), .int .u8 ((ph s).v:Int)], .bool true]else .tuple #[.agg #[.int .u8 0, .int .u8 0], .bool false]):
  ∃(m u:Nat) (b:Bool),v= .tuple #[.agg #[.int .u8 (m:Int), .int .u8 (u:Int)], .bool b]∧m<256∧u<256∧b=jw s∧(b=true→m=(ph s).m∧u=(ph s).v):=by
 by_cases hc:jw s=true
 ·rw[if_pos hc]at h
  have h8:s.length≤8:=by
   unfold jw at hc
   rw[so]at hc
   exact of_decide_eq_true hc.1
  have h1:=y5 s s.length
  have h2:=DT s s.length
  have h3:=aaV (show 0<2 by decide) h8
  exact⟨_,_,true,h,ab0 h1 h3,ab0 h2 h3,hc.symm,λ_=>⟨rfl,rfl⟩⟩
 ·rw[if_neg hc]at h
  exact⟨0,0,false,h,by decide,by decide,(aaT.2 hc).symm,λe=>by cases e⟩
section
variable {line:List UInt8} {ni no j cm cu N:Nat} {cb b:Bool} {T:TypeId} {w:World} {ov:Value}
theorem XC (hl:line.length=ni+1+no) (hj:ni+1+j<line.length) (h:Pc (gg line (ni+1+j)) 3=3):gR (ni:Int) (no:Int) line=false:=aaT.2 λk=>by
 have h1:=(vT.1 k).2.2.2 j (by rw[aci];omega)
 rw[AQ,abW (un _ _) h]at h1
 cases h1
theorem PA (h1:cm<256) (h2:cu<256) (h3:cb=jw (line.take ni)) (h4:cb=true→cm=(ph (line.take ni)).m∧cu=(ph (line.take ni)).v) (ho:cH dX 1 T w N ov (iJ ((line.drop (ni+1)).take j))) (hl:line.length=ni+1+no) (hj:ni+1+j=line.length)
  (hq:∀q,q<j→kX (gg (line.drop (ni+1)) q)=true) (hb:b=(cb&&decide (gg line ni=32))):
  ∃(m u:Nat) (ov':Value) (os:List Int) (b':Bool),Value.tuple #[.agg #[.int .u8 (cm:Int), .int .u8 (cu:Int),ov], .bool b]= .tuple #[.agg #[.int .u8 (m:Int), .int .u8 (u:Int),ov'], .bool b']∧m<256∧u<256∧cH dX 1 T w N ov' os∧b'=gR (ni:Int) (no:Int) line∧(b'=true→(⟨⟨m,u⟩,os⟩:Ln)=pN line):=by
 have hd:(line.drop (ni+1)).length=j:=by rw[aci];omega
 rw[←hd,aaY]at ho
 have e:b=gR (ni:Int) (no:Int) line:=by
  rw[acb,vT,hb,so,decide_eq_true_eq,h3]
  exact⟨λk=>⟨hl,k.1,k.2,λq hq'=>hq q (by omega)⟩,λk=>⟨k.2.1,k.2.2.1⟩⟩
 refine⟨cm,cu,ov,_,b,rfl,h1,h2,ho,e,λk=> ?_⟩
 rw[MY (e▸k)]
 simp_all
end
end
section
theorem xS:
    (execOp (dm f) ⟨d, .build 37 #[],ty,ps,af,g⟩).run Tryz.prog w= .ok (.value (.agg #[.int .u8 0, .int .u8 0, .slice none 0 0])) w:=by
  obtain⟨i0,hi0,hz0⟩:=we.1 (show (Tryz.prog.info? 37).bind (·.zero)=_ from pq)
  obtain⟨j34,hj34,hs34⟩:=an.1 pw
  obtain⟨j35,hj35,hs35⟩:=an.1 tr
  simp[execOp,Instr.build,zeroValue,typeInfo,sizeOf,hi0,hz0,run_underlying Tryz.underlying37,Instr.fill,d7,hj34,hs34,hj35,hs35]
theorem SF:cY Tryz.prog 172=true:=by kernel_rfl
theorem DM:cY Tryz.prog 142=true:=by kernel_rfl
theorem QU:cY Tryz.prog 143=true:=by kernel_rfl
theorem qj (s:List UInt8) (w:World) (hsl:s.length≤100000):
    Fn Tryz.prog 172 #[ea s] w λv w'=>v=if jw s=true then .tuple #[.agg #[.int .u8 ((ph s).m:Int), .int .u8 ((ph s).v:Int)], .bool true]else .tuple #[.agg #[.int .u8 0, .int .u8 0], .bool false]:=by
 refine cK (n:=44) Tryz.func172 rfl rfl rfl λhB=> ?_
 refine Zr<|Zy (cM gV rfl λt W3 y z a=> ?_)
 have d:=ZO y hB
 replace hB:=Ze hB z
 refine Zb rfl<|ct<|Zq<|Zr<|Zw (.string _) rfl<|Zv (m4 rfl Tryz.underlying9)<|Zv (gQ rfl rfl)<|ct<|ZQ rfl (λA=> ?_) λA=> ?_
 refine Zr<|Zv (jR)<|Zy (cA rfl rfl dh rfl a rfl rfl λS B C=> ?_)
 replace hB:=Zg hB B d
 replace a:=C
 refine Zb rfl<|ct<|Zt<|ex rfl dh a rfl (v1:= .bool false) rfl ⟨hB,?_⟩
 exact(if_neg (by rw[K1 (by omega)];decide)).symm
 refine cx<|Zr<|Zw (.slice none 0 0) rfl<|ct<|Zq<|Zr<|ZZ rfl<|cy ?_
 refine cW (σ:=(Nat)×(Value)) [3,5,10,41] (λ(k,v0)=>[(5, .int .i64 (k:Int)),(4,v0)]) (λsg W=>match sg with|(k,v0)=>(Below w.heap.size w W)∧(At W t _ 34)∧(cH dX 1 3 W w.heap.size v0 (iJ (s.take k)))∧(k≤s.length)∧(∀q,q<k→kX (gg s q)=true)∧(True)) (λ(k,v0)=>s.length-k) ((0, .slice none 0 0)) ⟨rfl,rfl,trivial⟩ ⟨hB,a,cH.nil,(me _),eO,trivial⟩ ?_
 rintro⟨k,v0⟩ T U ⟨hB,a,ho,hk,hq,_⟩ V e
 refine Zq<|Zr<|Zi rfl<|Zw (.string _) rfl<|Zv (m4 rfl Tryz.underlying9)<|Zv (dq rfl rfl)<|ct<|ZQ rfl (λD=> ?_) λD=> ?_
 refine cx<|Zq<|cy ?_
 have hbl:=un s k
 refine Zr<|Zw (.string _) rfl<|Zi rfl<|Zv (l3 rfl rfl Tryz.underlying9 Om)<|Zv (dO rfl rfl)<|ZX rfl (λE=> ?_) λE=> ?_
 refine Zs<|Zs<|Zs<|Zs<|Zb rfl<|ct<|cN rfl ?_
 have hbl:=un s k
 refine cI<|Zw v0 rfl<|Zw (.string _) rfl<|Zi rfl<|Zv (l3 rfl rfl Tryz.underlying9 Om)<|Zv (iP rfl Tryz.underlying5 Tryz.underlying3 vl)<|Zv (jY rfl rfl Om Om)<|Zy (ez (u:= .int .i64 _) rfl cV eP rfl Dd Dd λf X Y F g=> ?_)
 obtain⟨hB,a,ho⟩:=F.k3 hB a ho
 refine Zy (dP (v:=v0) (v2:= .slice (some ⟨f,0,none⟩) 1 1) rfl rfl cV eP Dd ho (eJ g rfl) rfl (m3 hB) xV xV λc Z l b=> ?_)
 replace b:=cH.snoc (enc:=dX) (x:=_) rfl rfl rfl rfl b
 replace hB:=ZG hB l ho
 replace a:=At.grownOw a ho l Dd
 refine Zw c rfl<|ct<|cI<|Zi rfl<|Zv (d5 rfl rfl Om Om)<|ZZ rfl ?_
 exact e _ _ ((k+1,c)) Za ⟨rfl,rfl,trivial⟩ ⟨hB,a,(by (rw[←tD (i:=k) (x:=(gg s k:Int)-48) Om (by unfold rW;rw[if_neg Om])];exact b)),Om,(dT hq (py.2 Om)),trivial⟩ (by show s.length-(k+1)<s.length-k;omega)
 refine Zw (.string _) rfl<|Zi rfl<|Zv (l3 rfl rfl Tryz.underlying9 Om)<|Zv (dO rfl rfl)<|Zb rfl<|ct<|ZQ rfl (λG=> ?_) λG=> ?_
 have hbl:=un s k
 refine cI<|Zw v0 rfl<|Zw (.string _) rfl<|Zi rfl<|Zv (l3 rfl rfl Tryz.underlying9 Om)<|Zv (iP rfl Tryz.underlying5 Tryz.underlying3 vl)<|Zv (jY rfl rfl Om Om)<|Zy (ez (u:= .int .i64 _) rfl cV eP rfl Dd Dd λf aa ab H g=> ?_)
 obtain⟨hB,a,ho⟩:=H.k3 hB a ho
 refine Zy (dP (v:=v0) (v2:= .slice (some ⟨f,0,none⟩) 1 1) rfl rfl cV eP Dd ho (eJ g rfl) rfl (m3 hB) xV xV λc ac o b=> ?_)
 replace b:=cH.snoc (enc:=dX) (x:=_) rfl rfl rfl rfl b
 replace hB:=ZG hB o ho
 replace a:=At.grownOw a ho o Dd
 refine Zw c rfl<|ct<|cI<|Zi rfl<|Zv (d5 rfl rfl Om Om)<|ZZ rfl ?_
 exact e _ _ ((k+1,c)) Za ⟨rfl,rfl,trivial⟩ ⟨hB,a,(by (rw[←tD (i:=k) (x:=(gg s k:Int)-48) Om (by unfold rW;rw[if_neg Om])];exact b)),Om,(dT hq (py.2 Om)),trivial⟩ (by show s.length-(k+1)<s.length-k;omega)
 refine Zr<|Zw (.string _) rfl<|Zi rfl<|Zv (l3 rfl rfl Tryz.underlying9 Om)<|Zv (dO rfl rfl)<|ct<|ZQ rfl (λI=> ?_) λI=> ?_
 have hbl:=un s k
 refine cI<|Zw v0 rfl<|Zy (ez (u:= .int .i64 2) rfl cV eP rfl Dd Dd λJ ad ae K L=> ?_)
 obtain⟨hB,a,ho⟩:=K.k3 hB a ho
 refine Zy (dP (v:=v0) (v2:= .slice (some ⟨J,0,none⟩) 1 1) rfl rfl cV eP Dd ho (eJ L rfl) rfl (m3 hB) xV xV λp af r j=> ?_)
 replace j:=cH.snoc (enc:=dX) (x:=_) rfl rfl rfl rfl j
 replace hB:=ZG hB r ho
 replace a:=At.grownOw a ho r Dd
 refine Zw p rfl<|ct<|cI<|Zi rfl<|Zv (d5 rfl rfl Om Om)<|ZZ rfl ?_
 exact e _ _ ((k+1,p)) Za ⟨rfl,rfl,trivial⟩ ⟨hB,a,(by (rw[←tD (i:=k) (x:=2) Om (by unfold rW;rw[if_pos Om])];exact j)),Om,(dT hq (py.2 Om)),trivial⟩ (by show s.length-(k+1)<s.length-k;omega)
 refine Zr<|Zv (jR)<|Zy (cA rfl rfl dh rfl a rfl rfl λag M N=> ?_)
 replace hB:=Zg hB M d
 replace a:=N
 refine Zb rfl<|ct<|Zt<|ex rfl dh a rfl (v1:= .bool false) rfl ⟨hB,?_⟩
 exact(if_neg (by rw[Pz (i:=k) (by omega) (by cases h:kX (gg s k)with|false=>rfl|true=>have:=py.1 h;omega)];decide)).symm
 refine cT ?_
 have hks:k=s.length:=by omega
 have hqs:∀q,q<s.length→kX (gg s q)=true:=λq h=>hq q (by omega)
 rw[hks,aaY]at ho
 refine Zr<|Zw v0 rfl<|ZC S9 (rm _ (iJ s) _ ho.sl (Ia Om hqs)) rfl λah ai O P=> ?_
 obtain⟨hB,a⟩:=O.k2 hB a
 obtain rfl:=P
 refine Zy (cA rfl rfl dh rfl a rfl rfl λaj Q R=> ?_)
 replace hB:=Zg hB Q d
 replace a:=R
 refine Zb rfl<|ct<|Zt<|ex rfl dh a rfl (v1:= .bool true) rfl ⟨hB,?_⟩
 (obtain⟨m1,m2⟩:=Mr hqs;rw[if_pos (CZ (by omega) hqs),m1,m2])
theorem jG (line word:List UInt8) (lo hi:Int) (w:World) (h0:0≤lo) (h1:hi<100) (hwl:word.length≤10):
    Fn Tryz.prog 142 #[ea line,ea word, .int .i64 lo, .int .i64 hi] w λv w'=>v= .int .i64 (fJ line word lo hi):=by
 refine cK (n:=24) Tryz.func142 rfl rfl rfl λhB=> ?_
 obtain⟨l,rfl⟩:=ab2 h0
 refine Zr<|ZZ rfl<|Zq<|Zr<|Zi rfl<|ZZ rfl<|cy ?_
 refine cW (σ:=(Nat)) [8,9,11,23] (λn=>[(9, .int .i64 (n:Int))]) (λn W=>(Below w.heap.size w W)∧(l≤n)∧(∀q:Nat,l≤q→q<n→¬line=word++32::iv q)∧(True)) (λn=>(hi+1).toNat-n) (l) ⟨rfl,trivial⟩ ⟨hB,(am _),(λq a b=>by omega),trivial⟩ ?_
 rintro n g8 W7 ⟨hB,hln,hq,_⟩ J9 d
 refine Zq<|Zr<|Zi rfl<|Zi rfl<|Zv (tW rfl rfl)<|ct<|ZQ rfl (λf=> ?_) λf=> ?_
 refine cx<|Zq<|cy ?_
 have hdl:=uN n
 refine Zr<|Zw (.string _) rfl<|Zw (.string _) rfl<|Zv (gP rfl rfl D5)<|Zi rfl<|ZC Xe (qa n _ Om) rfl λi j g h=> ?_
 replace hB:=Ze hB g
 obtain rfl:=h
 refine Zv (gP rfl rfl D5)<|Zv (rq rfl rfl)<|ct<|ZQ rfl (λc=> ?_) λc=> ?_
 refine Zr<|Zi rfl<|ZZ rfl<|Zt<|cZ (v:= .int .i64 _) rfl ⟨hB,?_⟩
 exact congrArg (Value.int .i64) (VS (by omega) (by rw[c];simp) (by omega) (by omega)).symm
 refine cx<|cI<|Zi rfl<|Zv (d5 rfl rfl Om Om)<|ZZ rfl ?_
 exact d _ _ (n+1) Za ⟨rfl,trivial⟩ ⟨hB,Om,(λq a b=>by rcases aaU.1 b with b|rfl;exact hq q a b;exact λe=>c (by rw[e];simp)),trivial⟩ Om
 refine cT<|Zr<|ZZ rfl<|Zt<|cZ (v:= .int .i64 _) rfl ⟨hB,?_⟩
 exact congrArg (Value.int .i64) (WQ λq a b=>hq q (by omega) (by omega)).symm
theorem rl (line:List UInt8) (ni no:Nat) (w:World) (hl:line.length≤100000) (hn8:ni≤8) (hn4:no≤4):
    Fn Tryz.prog 143 #[ea line, .int .i64 (ni:Int), .int .i64 (no:Int)] w λv w'=>∃(m u:Nat) (ov:Value) (os:List Int) (b:Bool),v= .tuple #[.agg #[.int .u8 (m:Int), .int .u8 (u:Int),ov], .bool b]∧m<256∧u<256∧cH dX 1 3 w' w.heap.size ov os∧b=gR (ni:Int) (no:Int) line∧(b=true→(⟨⟨m,u⟩,os⟩:Ln)=pN line):=by
 refine cK (n:=71) Tryz.func143 rfl rfl rfl λhB=> ?_
 refine Zr<|Zy (cM pq rfl λh W3 N O c=> ?_)
 have o:=ZO N hB
 replace hB:=Ze hB O
 refine Zb rfl<|ct<|Zq<|Zr<|Zw (.string _) rfl<|Zv (m4 rfl Tryz.underlying9)<|Zi rfl<|Zv (d5 rfl rfl Om Om)<|Zi rfl<|Zv (d5 rfl rfl Om Om)<|Zv (eV rfl rfl)<|ct<|ZQ rfl (λP=> ?_) λP=> ?_
 refine Zr<|Zv (xS)<|Zy (cA rfl rfl gk rfl c rfl rfl λay Q R=> ?_)
 replace hB:=Zg hB Q o
 replace c:=R
 refine Zb rfl<|ct<|Zt<|ex rfl gk c rfl (v1:= .bool false) rfl ⟨hB,?_⟩
 exact⟨0,0,_,[],false,rfl,by decide,by decide,cH.nil,(aaT.2 λk=>absurd (vT.1 k).1 (by omega)).symm,λe=>by cases e⟩
 refine cx<|Zr<|Zw (.string _) rfl<|Zi rfl<|Zv (Hj rfl rfl Tryz.underlying9 Om)<|ZC SF (qj (line.take ni) _ IA) rfl λaz aA S T=> ?_
 obtain⟨hB,c⟩:=S.k2 hB c
 obtain⟨cm,cu,cb,rfl,hcm,hcu,hcb,hcc⟩:=RQ T
 refine Zw (.tuple #[.agg #[_,_], .bool cb]) rfl<|Zv (c7 rfl)<|Zv (da rfl)<|Zy (cM gV rfl λE aB U V f=> ?_)
 have X:=ZO U hB
 obtain⟨hB,c⟩:=V.k2 hB c
 refine Zy (cA rfl rfl dh rfl f rfl rfl λaC F Y=> ?_)
 replace hB:=Zg hB F X
 replace c:=At.grownAt c f F Dd
 replace f:=Y
 refine Zw (.bool cb) rfl<|ct<|Zr<|Zv (cz rfl dh rfl f)<|Zv (qN (h0:=rfl))<|Zy (cM pq rfl λG aD H Z d=> ?_)
 have I:=ZO H hB
 have z:=Zn H c.lt
 obtain⟨hB,c,f⟩:=Z.k3 hB c f
 refine Zy (cA rfl rfl gk rfl d rfl rfl λaE A aa=> ?_)
 replace hB:=Zg hB A I
 replace c:=At.grownNe c z A
 replace f:=At.grownAt f d A Dd
 replace d:=aa
 refine ct<|Zq<|Zr<|Zi rfl<|Zv (d5 rfl rfl Om Om)<|ZZ rfl<|cy ?_
 refine cW (σ:=(Nat)×(Value)) [7,7,11,13,33,62] (λ(j,ov)=>[(11, .int .i64 ((ni+1+j:Nat):Int))]) (λsg W=>match sg with|(j,ov)=>(Below w.heap.size w W)∧(At W h _ 37)∧(At W E _ 34)∧(At W G #[.int .u8 (cm:Int), .int .u8 (cu:Int),ov] 37)∧(cH dX 1 3 W w.heap.size ov (iJ ((line.drop (ni+1)).take j)))∧(ni+1+j≤line.length)∧(∀q,q<j→kX (gg (line.drop (ni+1)) q)=true)∧(True)) (λ(j,ov)=>line.length-(ni+1+j)) ((0, .slice none 0 0)) ⟨rfl,trivial⟩ ⟨hB,c,f,d,cH.nil,Om,eO,trivial⟩ ?_
 rintro⟨j,ov⟩ aF aG ⟨hB,c,f,d,hov,hj,hq,_⟩ aH ab
 refine Zq<|Zr<|Zi rfl<|Zw (.string _) rfl<|Zv (m4 rfl Tryz.underlying9)<|Zv (dq rfl rfl)<|ct<|ZQ rfl (λac=> ?_) λac=> ?_
 refine cx<|Zq<|cy<|Zr<|ZZ rfl<|Zq<|Zr<|ZZ rfl<|cy ?_
 refine cW (σ:=(Nat)) [12,13,39,53] (λk=>[(12, .int .i64 (Pc (gg line (ni+1+j)) k)),(13, .int .i64 (k:Int))]) (λk W=>(Below w.heap.size w W)∧(At W h _ 37)∧(At W E _ 34)∧(At W G _ 37)∧(cH dX 1 3 W w.heap.size ov _)∧(k≤3)∧(True)) (λk=>3-k) (0) ⟨rfl,rfl,trivial⟩ ⟨hB,c,f,d,hov,(me _),trivial⟩ ?_
 rintro k aI aJ ⟨hB,c,f,d,hov,hk,_⟩ aK J
 refine Zq<|Zr<|Zi rfl<|Zv (dq rfl rfl)<|ct<|ZQ rfl (λad=> ?_) λad=> ?_
 refine cx<|Zq<|cy<|Zd dA λae af=> ?_
 obtain⟨hB,c,f,d,hov⟩:=af.k5 hB c f d hov
 have hS:=dA.refl ae
 refine Tw 0 (.string _) rfl rfl hS<|Ti 1 rfl rfl hS<|Ti 2 rfl rfl hS<|Tk 3 rfl (λ_ _=>d5 rfl rfl Om Om) hS<|Tk 4 rfl (λ_ _=>AD (a:=line) (i:=ni+1+j) (j:=ni+1+j+1) rfl rfl rfl Tryz.underlying9 Om Om) hS<|Ti 6 rfl rfl hS<|To 5 rfl (TH rfl rfl rfl jO Ib rfl rfl rfl λK ag ah B ai=>⟨.inl (hS.trans B),?_⟩)
 have aj:=ZO ah hB
 obtain⟨hB,c,f,d,hov⟩:=B.k5 hB c f d hov
 replace hS:=hS.trans B
 have L:cH ya 1 9 ag w.heap.size (.slice (some ⟨K,0,none⟩) 3 3) CH:=yz (l:=CH) ai aj iW (by decide)
 refine iZ (dd:=some 50) 7 jW rfl rfl rfl rfl (Yd.val (dp (v:= .slice (some ⟨K,0,none⟩) 3 3) rfl L.sl rfl jO Om Sz) ⟨.inl hS,?_⟩)
 refine iZ (dd:=some 51) 8 jW rfl rfl rfl rfl (Yd.val (cD (v:= .string _) rfl lX (dr.cell L.sl iW [] Om Sz 0 rfl)) ⟨.inl hS,?_⟩)
 refine Tk 9 rfl (λ_ _=>rq rfl rfl) hS<|Td<|ZQ rfl (λC=> ?_) λC=> ?_
 refine cI<|Zi rfl<|ZZ rfl<|cI<|Zi rfl<|Zv (d5 rfl rfl Om Om)<|ZZ rfl ?_
 exact J _ _ (k+1) Za ⟨(by exact congrArg (Value.int .i64) (aam ((G8 Om).symm.trans (by simpa using C)))),rfl,trivial⟩ ⟨hB,c,f,d,hov,Om,trivial⟩ Zo
 refine cx<|cI<|Zi rfl<|Zv (d5 rfl rfl Om Om)<|ZZ rfl ?_
 exact J _ _ (k+1) Za ⟨(by exact congrArg (Value.int .i64) (ZY λe=>C (by rw[G8 Om,e];simp))),rfl,trivial⟩ ⟨hB,c,f,d,hov,Om,trivial⟩ Zo
 refine cT<|Zq ?_
 obtain rfl:k=3:=by omega
 refine Zr<|Zi rfl<|Zv (dO rfl rfl)<|ct<|ZQ rfl (λp=> ?_) λp=> ?_
 refine Zr<|Zv (xS)<|Zy (cA rfl rfl gk rfl c rfl rfl λaL ak al=> ?_)
 replace hB:=Zg hB ak o
 replace c:=al
 refine Zb rfl<|ct<|Zt<|ex rfl gk c rfl (v1:= .bool false) rfl ⟨hB,?_⟩
 exact⟨0,0,_,[],false,rfl,by decide,by decide,cH.nil,(XC (by omega) (by omega) p).symm,λe=>by cases e⟩
 refine cx<|cI<|Zf rfl g7<|ZL ov rfl fv d rfl<|Zi rfl<|Zy (ez (u:= .int .i64 _) rfl cV eP rfl Dd Dd λao aM aN ap aq=> ?_)
 obtain⟨hB,c,f,d,hov⟩:=ap.k5 hB c f d hov
 refine Zy (dP (v:=ov) (v2:= .slice (some ⟨ao,0,none⟩) 1 1) rfl rfl cV eP Dd hov (eJ aq rfl) rfl (m3 hB) (by rw[mu,aaX,aci];omega) (by rw[mu,aaX,aci];omega) λM aO r g=> ?_)
 replace g:=cH.snoc (enc:=dX) (x:=_) rfl rfl rfl rfl g
 replace hB:=ZG hB r hov
 replace c:=At.grownOw c hov r Dd
 replace f:=At.grownOw f hov r Dd
 replace d:=At.grownOw d hov r Dd
 refine Zf rfl g7<|Zy (de (v:=M) rfl rfl fv (dr.one g.sl) d fF λaP s ar=> ?_)
 replace hB:=Zg hB s I
 replace c:=At.grownNe c z s
 replace f:=At.grownAt f d s Dd
 replace g:=cH.grownAt g d s Dd
 replace d:=ar
 replace d:At _ _ #[_,_,_] _:=d
 refine ct<|cI<|Zi rfl<|Zv (d5 rfl rfl Om Om)<|ZZ rfl ?_
 exact ab _ _ ((j+1,M)) Za ⟨rfl,trivial⟩ ⟨hB,c,f,(by exact d),(by (rw[←tD (i:=j) (x:=Pc (gg line (ni+1+j)) 3) (by rw[aci];omega) (by rw[AQ];exact(aaM (un _ _) p).2.symm)];exact g)),Om,(dT hq (by rw[AQ];exact(aaM (un _ _) p).1)),trivial⟩ Zo
 refine cT<|Zd (λa b=>a.grownBy b (some h)) λau av=> ?_
 obtain⟨hB,c,d,hov⟩:=av.k4 hB c d hov
 have hS:=World.grownBy.refl au (some h)
 refine Tk 0 rfl (λ_ hq=>cz rfl gk rfl (At.grownNe d (Ne.symm z) hq)) hS<|Tw 1 (.bool cb) rfl rfl hS<|Tx 2 rfl (λ_ _=>jV (v:= .bool cb) rfl) hS (λD=> ?_) λD=> ?_
 refine Tw 3 (.string _) rfl rfl hS<|Ti 4 rfl rfl hS<|Tk 5 rfl (λ_ _=>l3 rfl rfl Tryz.underlying9 Om) hS<|Tk 6 rfl (λ_ _=>dO rfl rfl) hS<|Ty 7 rfl rfl hS<|To 8 rfl (cA rfl rfl gk rfl c rfl (by exact pm (dr.one (cH.sl hov))) λaQ t aw=>⟨.inl (cB hS t),?_⟩)
 replace hS:=cB hS t
 replace hB:=Zg hB t o
 replace hov:=cH.grownAt hov c t Dd
 replace c:=aw
 refine Ty 9 rfl rfl hS<|Td<|Zt<|ex rfl gk c rfl (v1:= .bool _) rfl ⟨hB,?_⟩
 exact PA hcm hcu hcb hcc hov (by omega) (by omega) hq (by (rw[D,ack];exact decide_eq_decide.2 (by omega)))
 refine Tp 3 rfl hS<|Tp 4 rfl hS<|Tp 5 rfl hS<|Tp 6 rfl hS<|Ty 7 rfl rfl hS<|To 8 rfl (cA rfl rfl gk rfl c rfl (by exact pm (dr.one (cH.sl hov))) λaR y ax=>⟨.inl (cB hS y),?_⟩)
 replace hS:=cB hS y
 replace hB:=Zg hB y o
 replace hov:=cH.grownAt hov c y Dd
 replace c:=ax
 refine Ty 9 rfl rfl hS<|Td<|Zt<|ex rfl gk c rfl (v1:= .bool false) rfl ⟨hB,?_⟩
 exact PA hcm hcu hcb hcc hov (by omega) (by omega) hq (by (rw[D];rfl))
set_option maxHeartbeats 4000000 in
set_option maxRecDepth 10000 in
theorem qI (s:List UInt8) (w:World) (hsl:s.length≤100000):
    Fn Tryz.prog 93 #[ea s] w λv w'=>∃lv vs,v= .tuple #[.agg #[.int .i64 (cF s).1.kind, .int .i64 (cF s).1.ni, .int .i64 (cF s).1.no,lv], .int .i64 ((cF s).2.1:Int), .int .i64 (cF s).2.2]∧cH il 3 37 w' w.heap.size lv vs∧gf 3 w.heap.size w' vs (cF s).1.ls:=by
 refine cK (n:=139) Tryz.func93 rfl rfl rfl λhB=> ?_
 have hlc:=xD s
 refine Zr<|Zy (cM pn rfl λaa W3 az aA f=> ?_)
 have E:=ZO az hB
 replace hB:=Ze hB aA
 refine Zi rfl<|ZZ rfl<|Zq<|Zr<|Zw (.string _) rfl<|Zv (m4 rfl Tryz.underlying9)<|Zv (gQ rfl rfl)<|ct<|ZQ rfl (λaB=> ?_) λaB=> ?_
 refine Zr<|Zv (gW)<|Zy (cA rfl rfl dV rfl f rfl rfl λbh aC aD=> ?_)
 replace hB:=Zg hB aC E
 replace f:=aD
 refine Zi rfl<|ZZ rfl<|Zt<|jM rfl dV f rfl (v1:= .int .i64 0) rfl (v2:= .int .i64 3) rfl ⟨hB,?_⟩
 rw[Ax (by omega)]
 exact⟨_,[],rfl,cH.nil,gf.nil⟩
 refine cx<|Zr<|Zv (vK (h0:=rfl) (k0:=rfl) (c0_0:= .int .i64 1))<|Zy (cM pn rfl λab bi ar aE d=> ?_)
 have y:=ZO ar hB
 have z:=Zn ar f.lt
 obtain⟨hB,f⟩:=aE.k2 hB f
 refine Zy (cA rfl rfl dV rfl d rfl rfl λbj au aF=> ?_)
 replace hB:=Zg hB au y
 replace f:=At.grownNe f z au
 replace d:=aF
 refine ct<|Zr<|ZZ rfl<|Zr<|ZZ rfl<|Zr<|ZZ rfl<|Zr<|Zw (.string _) rfl<|ct<|Zq ?_
 refine Zr<|ZZ rfl<|cy ?_
 refine cW (σ:=(Nat)×(List (List UInt8))×(List UInt8)×(Value)×(List CV)) [3,4,6,17,23,129] (λ(i,A,l,lv,vs)=>[(10, .int .i64 (i:Int)),(9,ea (l)),(8, .int .i64 (A.length:Int)),(7, .int .i64 (xv (iD (cQ s) A.length).st)),(6, .int .i64 (iD (cQ s) A.length).told)]) (λsg W=>match sg with|(i,A,l,lv,vs)=>(Below w.heap.size w W)∧(At W aa _ 24)∧(At W ab #[.int .i64 (iD (cQ s) A.length).T.kind, .int .i64 (iD (cQ s) A.length).T.ni, .int .i64 (iD (cQ s) A.length).T.no,lv] 24)∧(cH il 3 37 W w.heap.size lv vs)∧(gf 3 w.heap.size W vs (iD (cQ s) A.length).T.ls)∧(i≤s.length)∧(cQ (s.take i)=A++[l])∧(l.length≤i)∧(∀q,q<A.length→lx (iD (cQ s) q) ((cQ s).getD q [])=0)∧(True)) (λ(i,A,l,lv,vs)=>s.length-i) ((0,[],[], .slice none 0 0,[])) ⟨rfl,rfl,rfl,rfl,rfl,trivial⟩ ⟨hB,f,d,cH.nil,gf.nil,(me _),rfl,(am _),(λq h=>absurd h (Nat.not_lt_zero q)),trivial⟩ ?_
 rintro⟨i,A,l,lv,vs⟩ bk bl ⟨hB,f,d,hlv,hls,hi,hA,hlb,herr,_⟩ bm N
 refine Zq<|Zr<|Zi rfl<|Zw (.string _) rfl<|Zv (m4 rfl Tryz.underlying9)<|Zv (dq rfl rfl)<|ct<|ZQ rfl (λaG=> ?_) λaG=> ?_
 refine cx<|Zq<|cy<|Zq<|Zr<|Zw (.string _) rfl<|Zi rfl<|Zv (l3 rfl rfl Tryz.underlying9 Om)<|Zv (eV rfl rfl)<|ct<|ZQ rfl (λaH=> ?_) λaH=> ?_
 have B:¬gg s i=10:=by omega
 refine Zr<|Zw (.string _) rfl<|Zw (.string _) rfl<|Zi rfl<|Zi rfl<|Zv (d5 rfl rfl Om Om)<|Zv (AD (a:=s) (i:=i) (j:=i+1) rfl rfl rfl Tryz.underlying9 Om Om)<|Zv (gP rfl rfl (by simp only[aaX,aci];omega))<|Zw (.string _) rfl<|ct<|cT<|cI<|Zi rfl ?_
 refine Zv (d5 rfl rfl Om Om)<|ZZ rfl ?_
 exact N _ _ ((i+1,A,l++(s.drop i).take (i+1-i),lv,vs)) Za ⟨rfl,rfl,pE,pE,pE,trivial⟩ ⟨hB,f,(by exact d),hlv,(by exact hls),Om,(QE Om hA B),(by simp only[An,aaX,aci];omega),herr,trivial⟩ (by show s.length-(i+1)<s.length-i;omega)
 refine cx ?_
 have B:gg s i=10:=by omega
 have hnw:=Lw (by omega) hA B
 refine Zr<|Zw (.string _) rfl<|Zw (.string _) rfl<|ct<|Zr<|Zw (.string _) rfl<|ct<|Zr<|Zi rfl<|Zv (d5 rfl rfl Om Om)<|ZZ rfl<|Zq<|Zr ?_
 refine Zw (.string _) rfl<|Zv (rq rfl rfl)<|ZX rfl (λt=> ?_) λt=> ?_
 refine Zs<|Zs<|Zs<|Zb rfl<|ct<|cN rfl<|cT<|cI<|Zi rfl<|Zv (d5 rfl rfl Om Om)<|ZZ rfl ?_
 have hr2:=(Ay hnw).trans (jd (r:=(iD (cQ s) A.length)) (vE t)).1
 exact N _ _ ((i+1,A++[l],[],lv,vs)) Za ⟨rfl,rfl,(by exact congrArg (Value.int .i64) fF),(by (rw[hr2];rfl)),(by (rw[hr2];rfl)),trivial⟩ ⟨hB,f,(by (rw[hr2];exact d)),hlv,(by (rw[hr2];exact hls)),Om,(vC Om hA B),(me _),(DJ herr hnw (jd (vE t)).2),trivial⟩ (by show s.length-(i+1)<s.length-i;omega)
 refine Zw (.string _) rfl<|Zv (l3 (i:=0) rfl rfl Tryz.underlying9 (by exact ads.2 t))<|Zv (dO rfl rfl)<|Zb rfl<|ct<|ZQ rfl (λC=> ?_) λC=> ?_
 refine cT<|cI<|Zi rfl<|Zv (d5 rfl rfl Om Om)<|ZZ rfl ?_
 have hr2:=(Ay hnw).trans (jd (r:=(iD (cQ s) A.length)) (s9 C)).1
 exact N _ _ ((i+1,A++[l],[],lv,vs)) Za ⟨rfl,rfl,(by exact congrArg (Value.int .i64) fF),(by (rw[hr2];rfl)),(by (rw[hr2];rfl)),trivial⟩ ⟨hB,f,(by (rw[hr2];exact d)),hlv,(by (rw[hr2];exact hls)),Om,(vC Om hA B),(me _),(DJ herr hnw (jd (s9 C)).2),trivial⟩ (by show s.length-(i+1)<s.length-i;omega)
 refine cx<|Zr<|ZZ rfl ?_
 refine qD (σ:=(Rd)×(Int)×(Value)×(List CV)) [6,7,12,17,50,123] (λ(r2,e,F,G)=>[(12, .int .i64 e),(7, .int .i64 (xv r2.st)),(6, .int .i64 r2.told)]) (λW=>(Below w.heap.size w W)∧(At W aa _ 24)∧(True)) ⟨hB,f,trivial⟩ (λsg W=>match sg with|(r2,e,F,G)=>(At W ab #[.int .i64 r2.T.kind, .int .i64 r2.T.ni, .int .i64 r2.T.no,F] 24)∧(cH il 3 37 W w.heap.size F G)∧(gf 3 w.heap.size W G r2.T.ls)∧(uI (iD (cQ s) A.length) l r2 e)∧(True)) (λbn g=> ?_) ?_
 have hok:=I3 (ls:=cQ s) A.length (by omega) herr
 have av:=(G1 (cQ s) A.length (by omega)).1
 have ac:=(G1 (cQ s) A.length (by omega)).2
 have h64:=hok.len
 refine Zr<|Zi rfl<|Zv (dO rfl rfl)<|ct<|ZQ rfl (λO=> ?_) λO=> ?_
 refine Zr<|Zw (.string _) rfl<|ZC DM (jG _ [46,105] 0 8 _ Dd Dd Dd) rfl λbo bp aI aJ=> ?_
 obtain⟨hB,f,d,hlv,hls⟩:=aI.k5 hB f d hlv hls
 obtain rfl:=aJ
 refine Zf rfl f6<|Zy (de (v:= .int .i64 _) rfl rfl cR rfl d fF λbq P aK=> ?_)
 replace hB:=Zg hB P y
 replace f:=At.grownNe f z P
 replace hlv:=cH.grownAt hlv d P Dd
 replace hls:=gf.grownAt hls d P Dd
 replace d:=aK
 replace d:At _ _ #[_,_,_,_] _:=d
 refine ct<|Zr<|ZZ rfl<|Zr<|Zf rfl f6<|Zl rfl cR d rfl<|Zv (ky rfl rfl)<|ct<|ZQ rfl (λad=> ?_) λad=> ?_
 refine cI<|ZZ rfl ?_
 exact g _ _ ((⟨{(iD (cQ s) A.length).T with ni:=fJ l [46,105] 0 8},1,(iD (cQ s) A.length).told⟩,0,lv,vs)) Za ⟨rfl,pE,rfl,trivial⟩ ⟨hB,f,trivial⟩ (by exact⟨(by exact d),hlv,(by exact hls),(Yt O (X2 ad)),trivial⟩)
 refine cx ?_
 exact g _ _ ((⟨{(iD (cQ s) A.length).T with ni:=fJ l [46,105] 0 8},1,(iD (cQ s) A.length).told⟩,2,lv,vs)) Za ⟨rfl,pE,rfl,trivial⟩ ⟨hB,f,trivial⟩ (by exact⟨(by exact d),hlv,(by exact hls),(Yt O (aas ad)),trivial⟩)
 refine Zr<|Zi rfl<|Zv (dO rfl rfl)<|ct<|ZQ rfl (λQ=> ?_) λQ=> ?_
 refine Zr<|Zw (.string _) rfl<|ZC DM (jG _ [46,111] 1 4 _ Dd Dd Dd) rfl λbr bs aL aM=> ?_
 obtain⟨hB,f,d,hlv,hls⟩:=aL.k5 hB f d hlv hls
 obtain rfl:=aM
 refine Zf rfl gN<|Zy (de (v:= .int .i64 _) rfl rfl cR rfl d fF λbt R aN=> ?_)
 replace hB:=Zg hB R y
 replace f:=At.grownNe f z R
 replace hlv:=cH.grownAt hlv d R Dd
 replace hls:=gf.grownAt hls d R Dd
 replace d:=aN
 replace d:At _ _ #[_,_,_,_] _:=d
 refine ct<|Zr<|ZZ rfl<|Zr<|Zf rfl gN<|Zl rfl cR d rfl<|Zv (ky rfl rfl)<|ct<|ZQ rfl (λae=> ?_) λae=> ?_
 refine cI<|ZZ rfl ?_
 exact g _ _ ((⟨{(iD (cQ s) A.length).T with no:=fJ l [46,111] 1 4},2,(iD (cQ s) A.length).told⟩,0,lv,vs)) Za ⟨rfl,pE,rfl,trivial⟩ ⟨hB,f,trivial⟩ (by exact⟨(by exact d),hlv,(by exact hls),(Zu Q (X2 ae)),trivial⟩)
 refine cx ?_
 exact g _ _ ((⟨{(iD (cQ s) A.length).T with no:=fJ l [46,111] 1 4},2,(iD (cQ s) A.length).told⟩,2,lv,vs)) Za ⟨rfl,pE,rfl,trivial⟩ ⟨hB,f,trivial⟩ (by exact⟨(by exact d),hlv,(by exact hls),(Zu Q (aas ae)),trivial⟩)
 refine Zr<|Zi rfl<|Zv (dq rfl rfl)<|ct<|ZQ rfl (λaf=> ?_) λaf=> ?_
 have hsr:=aaq av af O Q
 obtain⟨ni,hni⟩:=ab2 (hok.i (by omega)).1
 obtain⟨no,hno⟩:=ab2 (show 0≤(iD (cQ s) A.length).T.no by have:=(hok.o hsr.1).1;omega)
 have bu:=(hok.i (by omega)).2
 have hno4:=(hok.o hsr.1).2
 rw[hni,hno]at d
 refine Zr<|ZZ rfl<|Zq<|Zr<|ZZ rfl<|cy ?_
 refine cW (σ:=(Nat)) [13,14,68,79] (λk=>[(13, .int .i64 (pb l k)),(14, .int .i64 (k:Int))]) (λk W=>(Below w.heap.size w W)∧(At W aa _ 24)∧(At W ab _ 24)∧(cH il 3 37 W w.heap.size lv _)∧(gf 3 w.heap.size W vs ((iD (cQ s) A.length).T.ls))∧(k≤4)∧(True)) (λk=>4-k) (0) ⟨rfl,rfl,trivial⟩ ⟨hB,f,d,hlv,hls,(me _),trivial⟩ ?_
 rintro k bv bw ⟨hB,f,d,hlv,hls,hk,_⟩ bx aw
 refine Zq<|Zr<|Zi rfl<|Zv (dq rfl rfl)<|ct<|ZQ rfl (λaO=> ?_) λaO=> ?_
 refine cx<|Zq<|cy ?_
 have hkl:=w6 k
 refine Zr<|Zw (.string _) rfl<|ZC Xs (qn _) rfl λaP bz aQ S=> ?_
 have aR:=(Below.size hB)
 obtain⟨hB,f,d,hlv,hls⟩:=aQ.k5 hB f d hlv hls
 replace S:=cH.mono S aR
 refine Zi rfl<|Zv (dp (v:=aP) rfl S.sl rfl jO Om Sz)<|Zv (cD (v:= .string _) rfl lX (dr.cell S.sl iW [] Om Sz 0 rfl))<|Zv (gP rfl rfl (by simp only[An,aaW,acG,my];omega))<|Zv (rq rfl rfl)<|ct<|ZQ rfl (λag=> ?_) λag=> ?_
 refine cI<|Zi rfl<|ZZ rfl<|cI<|Zi rfl<|Zv (d5 rfl rfl Om Om)<|ZZ rfl ?_
 exact aw _ _ (k+1) Za ⟨(by exact congrArg (Value.int .i64) (Pr ag)),rfl,trivial⟩ ⟨hB,f,d,hlv,hls,Om,trivial⟩ Zo
 refine cx<|cI<|Zi rfl<|Zv (d5 rfl rfl Om Om)<|ZZ rfl ?_
 exact aw _ _ (k+1) Za ⟨(by exact congrArg (Value.int .i64) (Jb ag)),rfl,trivial⟩ ⟨hB,f,d,hlv,hls,Om,trivial⟩ Zo
 refine cT ?_
 obtain rfl:k=4:=by omega
 refine Zr<|Zw (.string _) rfl<|ZC DM (jG _ [46,112] 0 64 _ Dd Dd Dd) rfl λbA bB aS aT=> ?_
 obtain⟨hB,f,d,hlv,hls⟩:=aS.k5 hB f d hlv hls
 obtain rfl:=aT
 refine ZZ rfl<|Zr<|Zw (.string _) rfl<|Zf rfl f6<|Zl rfl cR d rfl<|Zf rfl gN<|Zl rfl cR d rfl<|ZC QU (rl _ ni no _ Om Om Om) rfl λbC bD aU aV=> ?_
 have aW:=(Below.size hB)
 obtain⟨hB,f,d,hlv,hls⟩:=aU.k5 hB f d hlv hls
 obtain⟨cm,cu,ov,os,rb,rfl,hcm,hcu,hov,hrb,hrow⟩:=aV
 replace hov:=cH.mono hov aW
 refine Zw (.tuple #[.agg #[_,_,ov], .bool rb]) rfl<|Zv (c7 rfl)<|Zv (da rfl)<|Zy (cM pq rfl λaX bE ax aY p=> ?_)
 have aZ:=ZO ax hB
 have a0:=acm (b:=aX) hlv (aaR ax.symm)
 obtain⟨hB,f,d,hlv,hls,hov⟩:=aY.k6 hB f d hlv hls hov
 refine Zy (cA rfl rfl gk rfl p rfl (by exact pm (dr.one (cH.sl hov))) λbF D a1=> ?_)
 replace hB:=Zg hB D aZ
 replace f:=At.grownAt f p D Dd
 replace d:=At.grownAt d p D Dd
 replace hlv:=ab3 hlv a0 D
 replace hls:=gf.grownAt hls p D Dd
 replace hov:=cH.grownAt hov p D Dd
 replace p:=a1
 refine Zw (.bool rb) rfl<|ct<|Zr<|Zi rfl<|Zv (ky rfl rfl)<|ct<|ZQ rfl (λU=> ?_) λU=> ?_
 refine Zr<|Zi rfl<|Zv (dO rfl rfl)<|ct<|ZQ rfl (λah=> ?_) λah=> ?_
 refine Zr<|Zi rfl<|Zf rfl mz<|Zy (de (v:= .int .i64 _) rfl rfl cR rfl d fF λbG V a2=> ?_)
 replace hB:=Zg hB V y
 replace f:=At.grownNe f z V
 replace hlv:=cH.grownAt hlv d V Dd
 replace hls:=gf.grownAt hls d V Dd
 replace d:=a2
 replace d:At _ _ #[_,_,_,_] _:=d
 refine ct<|Zr<|ZZ rfl<|cI<|ZZ rfl ?_
 exact g _ _ ((⟨{(iD (cQ s) A.length).T with kind:=pb l 4},3,(iD (cQ s) A.length).told⟩,0,lv,vs)) Za ⟨rfl,pE,rfl,trivial⟩ ⟨hB,f,trivial⟩ (by exact⟨(by (rw[hni,hno];exact d)),hlv,(by exact hls),(abn ah U),trivial⟩)
 refine cx ?_
 exact g _ _ (((iD (cQ s) A.length),2,lv,vs)) Za ⟨rfl,pE,rfl,trivial⟩ ⟨hB,f,trivial⟩ (by exact⟨(by (rw[hni,hno];exact d)),hlv,(by exact hls),(ZB hsr ah U),trivial⟩)
 have hvl:=hls.len
 refine Zr<|Zi rfl<|Zv (ky rfl rfl)<|ct<|ZQ rfl (λX=> ?_) λX=> ?_
 refine Zr<|Zi rfl<|Zv (dq rfl rfl)<|ct<|ZQ rfl (λai=> ?_) λai=> ?_
 refine Zr<|Zi rfl<|ZZ rfl<|Zr<|ZZ rfl<|cI<|ZZ rfl ?_
 exact g _ _ ((⟨(iD (cQ s) A.length).T,4,fJ l [46,112] 0 64⟩,0,lv,vs)) Za ⟨rfl,pE,rfl,trivial⟩ ⟨hB,f,trivial⟩ (by exact⟨(by (rw[hni,hno];exact d)),hlv,(by exact hls),(abl hsr ai X),trivial⟩)
 refine cx ?_
 exact g _ _ (((iD (cQ s) A.length),2,lv,vs)) Za ⟨rfl,pE,rfl,trivial⟩ ⟨hB,f,trivial⟩ (by exact⟨(by (rw[hni,hno];exact d)),hlv,(by exact hls),(YB hsr ai X),trivial⟩)
 refine Zr<|Zw (.string _) rfl<|Zv (rq rfl rfl)<|ct<|ZQ rfl (λH=> ?_) λH=> ?_
 refine Zr<|Zi rfl<|Zv (dq rfl rfl)<|ZX rfl (λaj=> ?_) λaj=> ?_
 refine Zs<|Zs<|Zs<|Zs<|Zs<|Zb rfl<|ct<|cN rfl<|Zr<|ZZ rfl<|cI<|ZZ rfl ?_
 exact g _ _ ((⟨(iD (cQ s) A.length).T,5,(iD (cQ s) A.length).told⟩,0,lv,vs)) Za ⟨rfl,pE,rfl,trivial⟩ ⟨hB,f,trivial⟩ (by exact⟨(by (rw[hni,hno];exact d)),hlv,(by exact hls),(Z3 hsr H (.inl aj)),trivial⟩)
 refine Zi rfl<|Zf rfl fW<|ZL lv rfl iU d rfl<|Zv (db (v:=lv) rfl hlv.sl gZ)<|Zv (dO rfl rfl)<|Zb rfl<|ct<|ZQ rfl (λa3=> ?_) λa3=> ?_
 refine Zr<|ZZ rfl<|cI<|ZZ rfl ?_
 exact g _ _ ((⟨(iD (cQ s) A.length).T,5,(iD (cQ s) A.length).told⟩,0,lv,vs)) Za ⟨rfl,pE,rfl,trivial⟩ ⟨hB,f,trivial⟩ (by exact⟨(by (rw[hni,hno];exact d)),hlv,(by exact hls),(Z3 hsr H (.inr Om)),trivial⟩)
 refine cx ?_
 exact g _ _ (((iD (cQ s) A.length),2,lv,vs)) Za ⟨rfl,pE,rfl,trivial⟩ ⟨hB,f,trivial⟩ (by exact⟨(by (rw[hni,hno];exact d)),hlv,(by exact hls),(YH hsr H aj Om),trivial⟩)
 refine Zr<|Zw (.bool rb) rfl<|ct<|ZQ rfl (λY=> ?_) λY=> ?_
 have ay:=hrow Y
 have hrw:gR (iD (cQ s) A.length).T.ni (iD (cQ s) A.length).T.no l=true:=by rw[hni,hno,←hrb];exact Y
 have hrc:(⟨cm,cu⟩:Cb)=(pN l).c:=congrArg Ln.c ay
 have hro:os=(pN l).os:=congrArg Ln.os ay
 rw[hro]at hov
 refine Zr<|ZZ rfl<|Zr<|ZZ rfl<|Zq<|Zr<|Zf rfl fW<|ZL lv rfl iU d rfl<|Zv (db (v:=lv) rfl hlv.sl gZ)<|Zv (ky rfl rfl)<|ct<|ZQ rfl (λa4=> ?_) λa4=> ?_
 refine cI<|ZZ rfl<|cI<|Zf rfl fW<|ZL lv rfl iU d rfl<|Zv (cz rfl gk rfl p)<|Zy (ez (u:= .agg #[_,_,_]) rfl gZ oW rfl Dd Dd λak bH bI a5 al=> ?_)
 obtain⟨hB,f,d,hlv,hls,hov⟩:=a5.k6 hB f d hlv hls hov
 refine Zy (dP (v:=lv) (v2:= .slice (some ⟨ak,0,none⟩) 1 1) rfl rfl gZ oW Dd hlv (eJ al rfl) (pm (dr.one (cH.sl hov))) (m3 hB) Om Om λI bJ J m=> ?_)
 replace m:=cH.snoc (enc:=il) (x:=⟨⟨cm,cu⟩,ov⟩) rfl rfl rfl rfl m
 replace hB:=ZG hB J hlv
 replace f:=At.grownOw f hlv J Dd
 replace d:=At.grownOw d hlv J Dd
 replace hls:=gf.grownOw hls hlv J Dd
 replace hov:=cH.grownOw hov hlv J Dd
 refine Zf rfl fW<|Zy (de (v:=I) rfl rfl iU (dr.one m.sl) d fF λbK K a6=> ?_)
 replace hB:=Zg hB K y
 replace f:=At.grownNe f z K
 replace hls:=gf.grownAt hls d K Dd
 replace hov:=cH.grownAt hov d K Dd
 replace m:=cH.grownAt m d K Dd
 replace d:=a6
 replace d:At _ _ #[_,_,_,_] _:=d
 refine ct ?_
 exact g _ _ ((⟨{(iD (cQ s) A.length).T with ls:=(iD (cQ s) A.length).T.ls++[pN l]},4,(iD (cQ s) A.length).told⟩,3,I,vs++[⟨⟨cm,cu⟩,ov⟩])) Za ⟨rfl,pE,rfl,trivial⟩ ⟨hB,f,trivial⟩ (by exact⟨(by (rw[hni,hno];exact d)),m,(by exact gf.snoc (l:=pN l) hls hrc hov),(X8 hsr hrw h64 Om),trivial⟩)
 refine cx<|cI<|Zf rfl fW<|ZL lv rfl iU d rfl<|Zv (cz rfl gk rfl p)<|Zy (ez (u:= .agg #[_,_,_]) rfl gZ oW rfl Dd Dd λak bL bM a7 al=> ?_)
 obtain⟨hB,f,d,hlv,hls,hov⟩:=a7.k6 hB f d hlv hls hov
 refine Zy (dP (v:=lv) (v2:= .slice (some ⟨ak,0,none⟩) 1 1) rfl rfl gZ oW Dd hlv (eJ al rfl) (pm (dr.one (cH.sl hov))) (m3 hB) Om Om λI bN L m=> ?_)
 replace m:=cH.snoc (enc:=il) (x:=⟨⟨cm,cu⟩,ov⟩) rfl rfl rfl rfl m
 replace hB:=ZG hB L hlv
 replace f:=At.grownOw f hlv L Dd
 replace d:=At.grownOw d hlv L Dd
 replace hls:=gf.grownOw hls hlv L Dd
 replace hov:=cH.grownOw hov hlv L Dd
 refine Zf rfl fW<|Zy (de (v:=I) rfl rfl iU (dr.one m.sl) d fF λbO M a8=> ?_)
 replace hB:=Zg hB M y
 replace f:=At.grownNe f z M
 replace hls:=gf.grownAt hls d M Dd
 replace hov:=cH.grownAt hov d M Dd
 replace m:=cH.grownAt m d M Dd
 replace d:=a8
 replace d:At _ _ #[_,_,_,_] _:=d
 refine ct ?_
 exact g _ _ ((⟨{(iD (cQ s) A.length).T with ls:=(iD (cQ s) A.length).T.ls++[pN l]},4,(iD (cQ s) A.length).told⟩,0,I,vs++[⟨⟨cm,cu⟩,ov⟩])) Za ⟨rfl,pE,rfl,trivial⟩ ⟨hB,f,trivial⟩ (by exact⟨(by (rw[hni,hno];exact d)),m,(by exact gf.snoc (l:=pN l) hls hrc hov),(abp hsr hrw Om),trivial⟩)
 refine cx ?_
 exact g _ _ (((iD (cQ s) A.length),2,lv,vs)) Za ⟨rfl,pE,rfl,trivial⟩ ⟨hB,f,trivial⟩ (by exact⟨(by (rw[hni,hno];exact d)),hlv,(by exact hls),(abj hsr U X H (by rw[hni,hno,←hrb];exact Y)),trivial⟩)
 refine cx ?_
 exact g _ _ (((iD (cQ s) A.length),2,lv,vs)) Za ⟨rfl,pE,rfl,trivial⟩ ⟨hB,f,trivial⟩ (by exact⟨(by exact d),hlv,(by exact hls),(aa3 ac af),trivial⟩)
 rintro⟨r2,e,F,G⟩ bP bQ ⟨hB,f,_⟩ ⟨d,hlv,hls,hst,_⟩
 refine Zr<|Zi rfl<|Zv (eV rfl rfl)<|ct<|ZQ rfl (λao=> ?_) λao=> ?_
 refine Zr<|Zv (gW)<|Zi rfl<|Zv (jY rfl rfl Om Om)<|Zi rfl<|Zy (cA rfl rfl dV rfl f rfl rfl λbR a9 ba=> ?_)
 replace hB:=Zg hB a9 E
 replace f:=ba
 refine Zi rfl<|ZZ rfl<|Zt<|jM rfl dV f rfl (v1:= .int .i64 _) rfl (v2:= .int .i64 _) rfl ⟨hB,?_⟩
 have hsk:=fQ (r:=(iD (cQ s) A.length)) (mY t C)
 rw[Kj (k:=A.length) (n:=(cQ s).length-1) (by omega) (by omega) (by omega) herr (by rw[hnw.1,hsk.2,←hst.1];exact ao),hnw.1,hsk.2,←hst.1,show (A.length:Int)+1-1=A.length by omega]
 exact⟨_,[],rfl,cH.nil,gf.nil⟩
 refine cx<|cI<|Zi rfl<|Zv (d5 rfl rfl Om Om)<|ZZ rfl ?_
 have he0:e=0:=aaS ao
 have hr2:=(Ay hnw).trans ((fQ (r:=(iD (cQ s) A.length)) (mY t C)).1.trans (hst.2 he0).symm)
 exact N _ _ ((i+1,A++[l],[],F,G)) Za ⟨rfl,rfl,(by exact congrArg (Value.int .i64) fF),(by (rw[hr2];rfl)),(by (rw[hr2];rfl)),trivial⟩ ⟨hB,f,(by (rw[hr2];exact d)),hlv,(by (rw[hr2];exact hls)),Om,(vC Om hA B),(me _),(DJ herr hnw ((fQ (mY t C)).2.trans (hst.1.symm.trans he0))),trivial⟩ (by show s.length-(i+1)<s.length-i;omega)
 refine cT<|Zq ?_
 have hil:i=s.length:=by omega
 rw[hil]at hA
 have hle:=Lc hA
 have av:=(G1 (cQ s) A.length (by omega)).1
 have ac:=(G1 (cQ s) A.length (by omega)).2
 refine Zr<|Zw (.string _) rfl<|Zv (Hk rfl rfl)<|ct<|ZQ rfl (λZ=> ?_) λZ=> ?_
 refine Zr<|Zv (gW)<|Zi rfl<|Zy (cA rfl rfl dV rfl f rfl rfl λbS bb bc=> ?_)
 replace hB:=Zg hB bb E
 replace f:=bc
 refine Zi rfl<|ZZ rfl<|Zt<|jM rfl dV f rfl (v1:= .int .i64 _) rfl (v2:= .int .i64 2) rfl ⟨hB,?_⟩
 rw[zK (n:=A.length) (by omega) hle.1 herr (by rw[hle.2];exact Z)]
 exact⟨_,[],rfl,cH.nil,gf.nil⟩
 refine cx<|Zq<|Zr<|Zi rfl<|Zv (eV rfl rfl)<|ct<|ZQ rfl (λap=> ?_) λap=> ?_
 refine Zr<|Zv (gW)<|Zi rfl<|Zy (cA rfl rfl dV rfl f rfl rfl λbT bd bf=> ?_)
 replace hB:=Zg hB bd E
 replace f:=bf
 refine Zi rfl<|ZZ rfl<|Zt<|jM rfl dV f rfl (v1:= .int .i64 _) rfl (v2:= .int .i64 7) rfl ⟨hB,?_⟩
 rw[y7 (n:=A.length) (by omega) hle.1 herr (by rw[hle.2];exact aaS Z) (λh=>ap (by unfold xv;rw[if_pos h]))]
 exact⟨_,[],rfl,cH.nil,gf.nil⟩
 refine cx<|Zr<|Zv (cz rfl dV rfl d)<|Zy (cA rfl rfl dV rfl f rfl (by exact pl (dr.one (cH.sl hlv))) λbU aq bg=> ?_)
 replace hB:=Zg hB aq E
 replace hlv:=cH.grownAt hlv f aq Dd
 replace hls:=gf.grownAt hls f aq Dd
 replace f:=bg
 refine Zi rfl<|ZZ rfl<|Zt<|jM rfl dV f rfl (v1:= .int .i64 0) rfl (v2:= .int .i64 0) rfl ⟨hB,?_⟩
 rw[Ds (n:=A.length) (by omega) hle.1 herr (by rw[hle.2];exact aaS Z) (aal ac (by have h6:=aaS ap;omega))]
 exact⟨lv,vs,rfl,hlv,hls⟩
end
section
section
variable {S:Sp}
theorem QR {R:Nat} {e:Int} (h:Vc R S e) (hb:(2^S.may.length-1)*bO S<R):e=0:=by
 obtain⟨ns',id,h1,_,_⟩:=h
 obtain⟨c,hc,s⟩:=h1.1.st
 exact(s.ok (by rw[acG];omega)).1
theorem abB:∀n m:Nat,n≤3→m≤2→(2^m-1)*(2^m*(tC n+2*n*3^n)+24+ur (16+m)*3^n+(16+m)*3^n)<20000:=by
 intro n m hn hm
 have hn':n=0∨n=1∨n=2∨n=3:=by omega
 have hm':m=0∨m=1∨m=2:=by omega
 rcases hn' with rfl|rfl|rfl|rfl<;>rcases hm' with rfl|rfl|rfl<;>decide+kernel
theorem Wu (hn:S.n≤3) (hm:S.may.length≤2):(2^S.may.length-1)*bO S<20000:=abB (nN S) S.may.length (by unfold nN;omega) hm
theorem Sc (hl:(eZ S).length≤4000) (h:Wo S T):T+1<2^(eZ S).length:=by
 obtain⟨L,ks,h1,h2⟩:=h
 have h3:=uZ h1.sub
 have h4:=aay (kR (S:=S) hl)
 exact ab0 h2 (aaV (by decide) (go h3 h4))
end
def KQ:Sp:=⟨2,[14],[14]⟩
theorem Nz:dt KQ=true:=by decide+kernel
theorem zk:(eZ KQ).length=2:=by decide+kernel
theorem VW:gH KQ (eZ KQ)=true:=Jg Nz
theorem MT:gH KQ []=false∧gH KQ [(eZ KQ).getD 0 ⟨⟨0,0⟩,0⟩]=false∧gH KQ [(eZ KQ).getD 1 ⟨⟨0,0⟩,0⟩]=false:=by decide+kernel
theorem Xc (h:Bq KQ Rr):Rr.length=2:=by
 have h1:=h.min _ VW
 rw[zk]at h1
 have hc:=h.cov
 have hs:=h.sub
 match Rr,h1,hc,hs with
 |[],_,hc,_=>rw[MT.1]at hc;cases hc
 |[r],_,hc,hs=>
  have hm:r∈eZ KQ:=hs.subset (aaG.2 rfl)
  obtain⟨j,hj,rfl⟩:=fh (d:=(⟨⟨0,0⟩,0⟩:Rw)) hm
  rw[zk]at hj
  have:j=0∨j=1:=by omega
  rcases this with rfl|rfl
  ·rw[MT.2.1]at hc;cases hc
  ·rw[MT.2.2]at hc;cases hc
 |[_,_],_,_,_=>rfl
 |_::_::_::_,h1,_,_=>simp only[aaW]at h1;omega
theorem abT {how why sp:Int} {Rr:List Rw} (h:JE 20000 1000000 KQ how why sp Rr):how=1∧why=0∧Rr.length=2:=by
 rcases h with ⟨h1,h2,_,_,_,h3⟩|⟨_,_,⟨_,_,h⟩|⟨_,_,_,h⟩⟩
 ·exact⟨h1,h2,Xc h3⟩
 ·exact absurd (QR h (Wu (by decide) (by decide))) (by decide)
 ·have:=Sc (by rw[zk];decide) h
  grind [zk]
def l9 (S:Sp):Bool:=oB S||(dt S&&(decide (4<S.n)||decide (3<S.on.length)))
section
variable {S:Sp} {b0 b1:Int}
theorem Ya (h:oB S=true):Value.bool true= .bool (l9 S):=by grind [l9]
theorem YK (h:oB S=false) (hr:dt S=true) (h4:S.n>4):Value.bool true= .bool (l9 S):=by grind [l9,decide_eq_true]
theorem Yx (h:oB S=false) (hr:dt S=true) (h4:¬S.n>4):Value.bool (decide ((S.on.length:Int)>3))= .bool (l9 S):=by
 unfold l9
 rw[h,hr,decide_eq_false (show ¬4<S.n from h4),Bool.false_or,ack,Bool.false_or]
 congr 1
 grind
theorem aaj (h:oB S=false) (hr:dt S=false):Value.bool false= .bool (l9 S):=by grind [l9]
end
end
section
def MH:List UInt8:=[46,105,32,50,10,46,111,32,49,10,48,49,32,49,10,49,48,32,49,10,49,49,32,49,10,46,101,10]
def wS2:List UInt8:=[46,105,32,50,10,46,111,32,49,10,48,32,49,10,46,101,10]
theorem Ku:(cF MH).2.2=0∧oD (cF MH).1=0∧(cF MH).1.ni=2∧(cF MH).1.no=1:=by decide+kernel
theorem aar:eq (cF MH).1=KQ:=by
 have h:(eq (cF MH).1).n=2∧(eq (cF MH).1).on=[14]∧(eq (cF MH).1).may=[14]:=by decide+kernel
 cases hs:eq (cF MH).1 with
 |mk a b c=>rw[hs]at h;obtain⟨rfl,rfl,rfl⟩:=h;rfl
theorem CJ:(cF wS2).2.1=2∧(cF wS2).2.2=2:=by decide+kernel
theorem T8:yh MH 4 3:=λ_=>by rw[Ku.2.2.1,Ku.2.2.2];decide
theorem TM:yh wS2 4 3:=λh=>by rw[CJ.2]at h;cases h
section
variable {tx:List UInt8} {how why rows ln e:Int}
theorem aba (h:x6 MH 20000 1000000 tx how why rows ln e):how=1∧rows=2∧ln=0∧e=0∧tx=js (oE KQ (eZ KQ)):=by
 rcases h with ⟨h,_⟩|⟨_,_,_,h1,h2,sp,Rr,h3,h4,h5⟩
 ·rcases h with ⟨h,_⟩|⟨_,h,_⟩|⟨_,_,h,_⟩
  ·exact absurd Ku.1 h
  ·exact absurd Ku.2.1 h
  ·exact absurd (by decide) h
 ·rw[aar]at h3 h4
  have h3':JE 20000 1000000 KQ how why sp Rr:=h3
  obtain⟨k1,_,k2⟩:=abT h3'
  rcases h3' with h6|h6
  ·have hs:Rr=eZ KQ:=h6.2.2.2.2.2.sub.eq_of_length (by rw[k2,zk])
   exact⟨k1,by rw[h5,k2];rfl,h1,h2,by rw[h4,hs]⟩
  all_goals omega
theorem abR (h:x6 wS2 0 0 tx how why rows ln e):ln=2∧e=2:=by
 rcases h with ⟨h,_⟩|⟨h,_⟩
 ·rcases h with ⟨_,h1,h2⟩|⟨h,_⟩|⟨h,_⟩
  ·rw[CJ.1]at h1;rw[CJ.2]at h2;exact⟨h1,h2⟩
  ·rw[CJ.2]at h;cases h
  ·rw[CJ.2]at h;cases h
 all_goals grind [CJ]
end
end
section
theorem Or:d4 Tryz.prog 49=some (.agg #[.int .i64 0, .int .i64 0]):=by kernel_rfl
theorem AC (h0:dm f x0=c0_0) (k0:c0_0.cells= #[c0_0]) (h1:dm f x1=c1_0) (k1:c1_0.cells= #[c1_0]):
    (execOp (dm f) ⟨d, .build 49 #[(0,x0),(1,x1)],ty,ps,af,g⟩).run Tryz.prog w= .ok (.value (.agg #[c0_0,c1_0])) w:=by
  obtain⟨i0,hi0,hz0⟩:=we.1 (show (Tryz.prog.info? 49).bind (·.zero)=_ from Or)
  obtain⟨j3,hj3,hs3⟩:=an.1 fL
  simp[execOp,h0,k0,h1,k1,Instr.build,zeroValue,typeInfo,sizeOf,hi0,hz0,run_underlying Tryz.underlying49,Instr.fill,d7,hj3,hs3]
theorem Dj:cY Tryz.prog 23=true:=by kernel_rfl
theorem Fp:
    (execOp (dm f) ⟨d, .build 49 #[],ty,ps,af,g⟩).run Tryz.prog w= .ok (.value (.agg #[.int .i64 0, .int .i64 0])) w:=by
  obtain⟨i0,hi0,hz0⟩:=we.1 (show (Tryz.prog.info? 49).bind (·.zero)=_ from Or)
  obtain⟨j3,hj3,hs3⟩:=an.1 fL
  simp[execOp,Instr.build,zeroValue,typeInfo,sizeOf,hi0,hz0,run_underlying Tryz.underlying49,Instr.fill,d7,hj3,hs3]
theorem uH:cY Tryz.prog 13=true:=by kernel_rfl
theorem fI (w:World) (hgl:Gl w):
    Fn Tryz.prog 13 #[] w λv w'=>v= .bool true:=by
 refine cK (n:=39) Tryz.func13 rfl rfl rfl λhB=> ?_
 refine Zr<|Zb rfl<|ct<|Zr<|Zv (AC (h0:=rfl) (k0:=rfl) (h1:=rfl) (k1:=rfl) (c0_0:= .int .i64 20000) (c1_0:= .int .i64 1000000))<|ZC (vs:=[.string _, .agg #[_,_]]) Dj (sY MH 20000 1000000 _ (Gl.below hB hgl) Dd T8) rfl λz W5 h i=> ?_
 replace hB:=Ze hB h
 obtain⟨tx1_1,how1_1,why1_1,rows1_1,ln1_1,e1_1,rfl,j⟩:=i
 obtain⟨rfl,rfl,rfl,rfl,rfl⟩:=aba j
 refine Zw (.tuple #[.agg #[.string _, .int .i64 1, .int .i64 _, .int .i64 2], .int .i64 0, .int .i64 0]) rfl<|Zv (gj rfl)<|Zv (iy rfl)<|Zv (ik rfl)<|Zy (cM wM rfl λA W8 k l a=> ?_)
 have m:=ZO k hB
 replace hB:=Ze hB l
 refine Zy (cA rfl rfl np rfl a rfl rfl λB o p=> ?_)
 replace hB:=Zg hB o m
 replace a:=p
 refine Zi rfl<|ZZ rfl<|Zr<|Zv (Fp)<|ZC (vs:=[.string _, .agg #[_,_]]) Dj (sY wS2 0 0 _ (Gl.below hB hgl) Dd TM) rfl λC D q r=> ?_
 obtain⟨hB,a⟩:=q.k2 hB a
 obtain⟨tx2_1,how2_1,why2_1,rows2_1,ln2_1,e2_1,rfl,s⟩:=r
 obtain⟨rfl,rfl⟩:=abR s
 refine Zw (.tuple #[.agg #[.string _, .int .i64 _, .int .i64 _, .int .i64 _], .int .i64 2, .int .i64 2]) rfl<|Zv (gj rfl)<|Zv (iy rfl)<|Zv (ik rfl)<|Zy (cM wM rfl λE F b t u=> ?_)
 have x:=ZO b hB
 have y:=Zn b a.lt
 obtain⟨hB,a⟩:=t.k2 hB a
 refine Zy (cA rfl rfl np rfl u rfl rfl λG c H=> ?_)
 replace hB:=Zg hB c x
 replace a:=At.grownNe a y c
 refine Zi rfl<|ZZ rfl<|Zr<|Zf rfl sV<|Zl rfl cR a rfl<|Zv (dO rfl rfl)<|ZX rfl (λd=> ?_) λd=> ?_
 refine Zf rfl tk<|Zl rfl cR a rfl<|Zv (dO rfl rfl)<|Zb rfl<|ZX rfl (λe=> ?_) λe=> ?_
 refine Zi rfl<|Zv (dO rfl rfl)<|Zb rfl<|ZX rfl (λf=> ?_) λf=> ?_
 refine Zi rfl<|Zv (dO rfl rfl)<|Zb rfl<|ZX rfl (λg=> ?_) λg=> ?_
 refine Zi rfl<|Zv (dO rfl rfl)<|Zb rfl<|Zb rfl<|ct<|Zt<|cZ (v:= .bool _) rfl ⟨hB,?_⟩
 rfl
 exact absurd rfl g
 exact absurd rfl f
 exact absurd rfl e
 exact absurd rfl d
end
section
section
variable {S:Sp} {b0 b1 how why sp:Int} {R T:Nat} {Rr:List Rw}
theorem C9 (h:JE R T S how why sp Rr) (h1:how=1):Bq S Rr:=by
 rcases h with h|h
 ·exact h.2.2.2.2.2
 ·have:=h.1;omega
end
end
section
def BC (s:List UInt8) (a b:Int):Bool:=decide (¬(cF s).2.2=0)||(decide ((cF s).1.ni≤a)&&decide ((cF s).1.no≤b))
def nq (s:List UInt8) (b1:Int):Bool:=decide ((s.length:Int)>9000)||(decide (b1>2000)&&decide (b1≤1000000))|| !BC s 4 3
section
variable {s u tx tx2:List UInt8} {a b b0 b1 how why rows ln e how2 why2 rows2 ln2 e2:Int}
theorem YO (h:¬(cF s).2.2=0):Value.bool true= .bool (BC s a b):=by grind [BC,decide_eq_true]
theorem aau (h:¬¬(cF s).2.2=0) (h1:(cF s).1.ni≤a):Value.bool (decide ((cF s).1.no≤b))= .bool (BC s a b):=by grind [BC,decide_eq_false,decide_eq_true]
theorem X4 (h:¬¬(cF s).2.2=0) (h1:¬(cF s).1.ni≤a):Value.bool false= .bool (BC s a b):=by grind [BC,decide_eq_false]
theorem ZS (h:(s.length:Int)>9000):Value.bool true= .bool (nq s b1):=by grind [nq,decide_eq_true]
theorem ZK (h2:b1>2000) (h3:b1≤1000000):Value.bool true= .bool (nq s b1):=by grind [nq,decide_eq_true]
theorem UB (h:¬(s.length:Int)>9000) (h2:¬(b1>2000∧b1≤1000000)):Value.bool (!BC s 4 3)= .bool (nq s b1):=by
 grind [nq,decide_eq_false,Bool.decide_and]
theorem Fm (h:nq s b1=false):s.length≤9000∧yh s 4 3:=by
 unfold nq BC at h
 simp only[Bool.or_eq_false_iff,Bool.not_eq_false',decide_eq_false_iff_not,acr,decide_eq_true_eq,so]at h
 refine⟨by omega,λh0=> ?_⟩
 omega
theorem wU (h:x6 s b0 b1 tx how why rows ln e) (hf:yh s 4 3) (he:e=0):∃S sp Rr,S=eq (cF s).1∧(cF s).2.2=0∧oD (cF s).1=0∧dt S=true∧S.n≤4∧S.on.length≤3∧oK b0 b1∧JE b0.toNat b1.toNat S how why sp Rr∧
  tx=js (oE S Rr)∧rows=(Rr.length:Int)∧ln=0∧gH S Rr=true∧km S Rr=true∧Rr.length≤48:=by
 rcases h with ⟨h,_⟩|⟨hp,ho,hb,h1,_,sp,Rr,h3,h4,h5⟩
 ·exact absurd he h.ne
 all_goals grind [mi,pO,Hp,eW]
theorem WN (h:x6 s b0 b1 tx how why rows ln e) (he:¬e=0):tx=[]∧how=0∧why=0∧rows=0:=by
 rcases h with ⟨_,h⟩|⟨_,_,_,_,h,_⟩
 all_goals omega
theorem KP (hr:dt S=true) (hm:km S Rr=true) (hl:Rr.length≤48):cF (js (oE S Rr))=(oE S Rr,0,0):=by grind [Gc,s6]
theorem Pp (h:x6 s b0 b1 tx how why rows ln e) (hf:yh s 4 3):tx.length≤1000:=by
 by_cases he:e=0
 ·obtain⟨S,sp,Rr,_,_,_,hr,_,_,_,_,rfl,_,_,_,hm,hl⟩:=wU h hf he
  exact Ag (s6 hr hm (by omega))
 ·rw[(WN h he).1];exact me _
theorem vz (h:x6 s b0 b1 tx how why rows ln e) (hf:yh s 4 3) (he:e=0) (h2:x6 tx b0 b1 tx2 how2 why2 rows2 ln2 e2):e2=0∧ln2=0∧(how=1→how2=1→rows2=rows):=by
 obtain⟨S,sp,Rr,_,_,_,hr,hn,h3,hb,hmm,htx,hrw,_,hc,hm,hl⟩:=wU h hf he
 have hp:=KP hr hm hl
 have ho:=IY hr hm (show Rr.length≤64 by omega)
 rw[←htx]at hp
 rcases h2 with ⟨h2,_⟩|⟨_,_,_,k1,k2,sp2,R2,k3,k4,k5⟩
 ·rcases h2 with ⟨q,_⟩|⟨_,q,_⟩|⟨_,_,q,_⟩
  ·rw[hp]at q;exact absurd rfl q
  ·rw[hp]at q;exact absurd ho q
  ·exact absurd hb q
 ·refine⟨k2,k1,λe1 e2=> ?_⟩
  rw[hp]at k3
  rw[k5,hrw,My (C9 hmm e1) (by omega) (C9 k3 e2)]
theorem RY (h:Bq S Z) (h2:Bq S Z2):Z.length=Z2.length:=Nat.le_antisymm (h.min _ h2.cov) (h2.min _ h.cov)
theorem PC (h:gH S l=true) (h64:l.length≤64):IE S (eq (oE S l))=true:=by
 obtain⟨hr,hm,hc⟩:=eW.1 h
 obtain⟨h0,h8,h1,h4,h5,hin⟩:=dw.1 hr
 unfold IE
 refine aa1.2 λo ho=> ?_
 have ho:=acp.1 ho
 have hq:=(iC hr hm ho).1 (hc o ho)
 obtain⟨w1,w2⟩:=hin o ho
 unfold qW
 rw[so]
 constructor
 ·refine dJ.2 λp hp hb=> ?_
  have hlt:p<2^S.n.toNat:=by
   have:=dJ.1 w2 p hp (dJ.1 w1 p hp hb)
   rwa [fo,decide_eq_true_eq]at this
  show (zn (eq (oE S l)) o).testBit p=true
  rw[onR ho]
  exact(M2 hr hm ho p).2 ⟨hlt,(hq p hlt).1 hb⟩
 ·refine dJ.2 λp hp hb=> ?_
  have hb2:(jZ (eq (oE S l)) o).testBit p=true:=hb
  rw[XN ho]at hb2
  obtain⟨h2,h3⟩:=(M2 hr hm ho p).1 hb2
  exact(hq p h2).2 h3
theorem Gx {b:Bool} (h:x6 s b0 b1 tx how why rows ln e) (hf:yh s 4 3) (he:e=0) (h2:YN s tx b e2):b=true∧e2=0:=by
 obtain⟨S,sp,Rr,rfl,hp,ho,hr,hn,h3,hb,hmm,htx,hrw,_,hc,hm,hl⟩:=wU h hf he
 have hq:=KP hr hm hl
 have hoq:=IY hr hm (show Rr.length≤64 by omega)
 rw[←htx]at hq
 have hcm:L5 (cF s).1 (cF tx).1:=by
  rw[hq]
  obtain⟨_,_,_,_,h7,_⟩:=iV (xn hp)
  refine⟨rfl,rfl,?_⟩
  show ((pR _ _).length:Int)=_
  rw[kq]
  omega
 rcases h2 with ⟨h2,_⟩|⟨_,_,_,_,_,k1,k2⟩
 ·rcases h2 with ⟨q,_⟩|⟨_,q,_⟩|⟨_,_,q,_⟩|⟨_,_,_,q,_⟩|⟨_,_,_,_,q,_⟩
  ·exact absurd hp q
  ·exact absurd ho q
  ·rw[hq]at q;exact absurd rfl q
  ·exact absurd hcm q
  ·rw[hq]at q;exact absurd hoq q
 all_goals grind [PC]
theorem Uf (h:x6 s b0 b1 tx how why rows ln e) (hf:yh s 4 3) (he:e=0) {c0 c1:Int} (h2:x6 s c0 c1 tx2 how2 why2 rows2 ln2 e2) (he2:e2=0) (e1:how=1) (e3:how2=1):rows=rows2:=by
 obtain⟨S,sp,Rr,rfl,_,_,_,_,_,_,hmm,_,hrw,_⟩:=wU h hf he
 obtain⟨S2,sp2,R2,rfl,_,_,_,_,_,_,hmm2,_,hrw2,_⟩:=wU h2 hf he2
 rw[hrw,hrw2,RY (C9 hmm e1) (C9 hmm2 e3)]
theorem Rg (h:x6 s b0 b1 tx how why rows ln e) (hf:yh s 4 3) (he:e=0):(cF s).2.2=0∧oD (cF s).1=0∧l9 (eq (cF s).1)=false:=by
 obtain⟨S,sp,Rr,rfl,hp,ho,hr,hn,h3,_⟩:=wU h hf he
 refine⟨hp,ho,?_⟩
 obtain⟨_,_,_,_,h5,_⟩:=dw.1 hr
 unfold l9 oB
 grind
end
end
section
theorem Xt:cY Tryz.prog 93=true:=by kernel_rfl
theorem PQ:cY Tryz.prog 24=true:=by kernel_rfl
theorem M7:cY Tryz.prog 67=true:=by kernel_rfl
theorem M6:cY Tryz.prog 22=true:=by kernel_rfl
theorem mS (s:List UInt8) (a b:Int) (w:World) (hsl:s.length≤100000):
    Fn Tryz.prog 67 #[ea s, .int .i64 a, .int .i64 b] w λv w'=>v= .bool (BC s a b):=by
 refine cK (n:=30) Tryz.func67 rfl rfl rfl λhB=> ?_
 refine Zr<|Zb rfl<|ct<|Zr<|Zw (.string _) rfl<|ZC Xt (qI _ _ pr) rfl λp W5 h i=> ?_
 replace hB:=Ze hB h
 obtain⟨j,q,rfl,hsl1_1,c⟩:=i
 replace hsl1_1:=cH.sl hsl1_1
 replace c:=gf.at c
 refine Zw (.tuple #[.agg #[.int .i64 _, .int .i64 _, .int .i64 _,j], .int .i64 _, .int .i64 _]) rfl<|Zv (gj rfl)<|Zv (iy rfl)<|Zv (ik rfl)<|Zy (cM pn rfl λr W8 k g d=> ?_)
 have l:=ZO k hB
 obtain⟨hB,hsl1_1⟩:=g.k2 hB hsl1_1
 replace c:=qo.ext g c
 refine Zy (cA rfl rfl dV rfl d rfl (by exact pl (dr.one hsl1_1)) λt m o=> ?_)
 replace hB:=Zg hB m l
 replace d:=o
 refine Zi rfl<|ZZ rfl<|Zr<|Zi rfl<|Zv (eV rfl rfl)<|ZX rfl (λe=> ?_) λe=> ?_
 refine Zs<|Zs<|Zs<|Zs<|Zs<|Zs<|Zs<|Zs<|Zs<|Zs<|Zb rfl<|Zb rfl<|ct<|Zt ?_
 refine cZ (v:= .bool true) rfl ⟨hB,?_⟩
 exact YO e
 refine Zf rfl f6<|Zl rfl cR d rfl<|Zi rfl<|Zv (tW rfl rfl)<|ZX rfl (λf=> ?_) λf=> ?_
 refine Zf rfl gN<|Zl rfl cR d rfl<|Zi rfl<|Zv (tW rfl rfl)<|Zb rfl<|Zb rfl<|Zb rfl<|ct<|Zt<|cZ (v:= .bool _) rfl ⟨hB,?_⟩
 exact aau e f
 refine Zs<|Zs<|Zs<|Zs<|Zb rfl<|Zb rfl<|Zb rfl<|ct<|Zt<|cZ (v:= .bool false) rfl ⟨hB,?_⟩
 exact X4 e f
theorem lQ (s:List UInt8) (b0 b1:Int) (w:World):
    Fn Tryz.prog 22 #[ea s, .agg #[.int .i64 b0, .int .i64 b1]] w λv w'=>v= .bool (nq s b1):=by
 refine cK (n:=23) Tryz.func22 rfl rfl rfl λhB=> ?_
 refine Zr<|Zy (du (c:= #[_,_]) rfl rfl λl W3 m g f=> ?_)
 replace hB:=Ze hB g
 refine Zb rfl<|ct<|Zr<|Zw (.string _) rfl<|Zv (m4 rfl Tryz.underlying9)<|Zv (gQ rfl rfl)<|ZX rfl (λa=> ?_) λa=> ?_
 refine Zs<|Zs<|Zs<|Zs<|Zs<|Zs<|Zs<|Zs<|Zb rfl<|Zb rfl<|Zs<|Zs<|Zs<|Zb rfl ?_
 refine Zb rfl<|ct<|Zt<|cZ (v:= .bool true) rfl ⟨hB,?_⟩
 exact ZS a
 refine Zf rfl nJ<|Zl rfl cR f rfl<|Zv (gQ rfl rfl)<|ZX rfl (λb=> ?_) λb=> ?_
 refine Zf rfl nJ<|Zl rfl cR f rfl<|Zv (tW rfl rfl)<|Zb rfl<|Zb rfl<|ZX rfl (λd=> ?_) λd=> ?_
 refine Zs<|Zs<|Zs<|Zb rfl<|Zb rfl<|ct<|Zt<|cZ (v:= .bool true) rfl ⟨hB,?_⟩
 exact ZK b d
 refine Zw (.string _) rfl<|ZC M7 (mS s 4 3 _ Om) rfl λi W8 j e=> ?_
 replace hB:=Ze hB j
 obtain rfl:=e
 refine Zv (eK rfl)<|Zb rfl<|Zb rfl<|ct<|Zt<|cZ (v:= .bool _) rfl ⟨hB,?_⟩
 exact UB a (λh=>d h.2)
 refine Zs<|Zs<|Zs<|Zb rfl<|Zb rfl<|Zb rfl<|Zw (.string _) rfl<|ZC M7 (mS s 4 3 _ Om) rfl λi o k e=> ?_
 replace hB:=Ze hB k
 obtain rfl:=e
 refine Zv (eK rfl)<|Zb rfl<|Zb rfl<|ct<|Zt<|cZ (v:= .bool _) rfl ⟨hB,?_⟩
 exact UB a (λh=>b h.1)
end
section
theorem Wl:cY Tryz.prog 84=true:=by kernel_rfl
theorem V4:cY Tryz.prog 85=true:=by kernel_rfl
theorem qb (S:Sp) (onV mayV:Value) (w:World) (hon:dr eX 4 w onV S.on) (hmay:dr eX 4 w mayV S.may):
    Fn Tryz.prog 84 #[.agg #[.int .i64 S.n,onV,mayV]] w λv w'=>v= .bool (oB S):=by
 refine cK (n:=13) Tryz.func84 rfl rfl rfl λhB=> ?_
 refine Zr<|Zy (du (c:= #[_,_,_]) rfl rfl λe W3 f d b=> ?_)
 replace hB:=Ze hB d
 refine Zb rfl<|ct<|Zr<|Zf rfl fw<|ZL onV rfl eh b rfl<|Zv (db (v:=onV) rfl (Below.slT hB hon) dQ)<|Zv (gQ rfl rfl)<|ZX rfl (λa=> ?_) λa=> ?_
 refine Zs<|Zs<|Zs<|Zs<|Zb rfl<|Zb rfl<|ct<|Zt<|cZ (v:= .bool true) rfl ⟨hB,?_⟩
 exact congrArg Value.bool (Sq a)
 refine Zf rfl fE<|ZL mayV rfl eh b rfl<|Zv (db (v:=mayV) rfl (Below.slT hB hmay) dQ)<|Zv (gQ rfl rfl)<|Zb rfl<|Zb rfl<|ct<|Zt<|cZ (v:= .bool _) rfl ⟨hB,?_⟩
 exact congrArg Value.bool (Sm a)
theorem qs (S:Sp) (onV mayV:Value) (w:World) (hon:dr eX 4 w onV S.on) (hmay:dr eX 4 w mayV S.may):
    Fn Tryz.prog 26 #[.agg #[.int .i64 S.n,onV,mayV]] w λv w'=>v= .bool (l9 S):=by
 refine cK (n:=20) Tryz.func26 rfl rfl rfl λhB=> ?_
 refine Zr<|Zy (du (c:= #[_,_,_]) rfl rfl λk W3 l f a=> ?_)
 replace hB:=Ze hB f
 refine Zb rfl<|ct<|Zr<|Zv (cz rfl d9 rfl a)<|ZC (vs:=[.agg #[_,_,_]]) Wl (qb S _ _ _ (Below.slT hB hon) (Below.slT hB hmay)) rfl λm W8 g h=> ?_
 obtain⟨hB,a⟩:=g.k2 hB a
 obtain rfl:=h
 refine ZX rfl (λb=> ?_) λb=> ?_
 refine Zs<|Zs<|Zs<|Zs<|Zs<|Zs<|Zs<|Zs<|Zs<|Zs<|Zs<|Zs<|Zs<|Zb rfl ?_
 refine Zb rfl<|ct<|Zt<|cZ (v:= .bool true) rfl ⟨hB,?_⟩
 exact Ya b
 refine Zv (cz rfl d9 rfl a)<|ZC (vs:=[.agg #[_,_,_]]) V4 (qQ S _ _ _ (Below.slT hB hon) (Below.slT hB hmay)) rfl λo p i j=> ?_
 obtain⟨hB,a⟩:=i.k2 hB a
 obtain rfl:=j
 refine ZX rfl (λd=> ?_) λd=> ?_
 refine Zf rfl gn<|Zl rfl cR a rfl<|Zv (gQ rfl rfl)<|ZX rfl (λe=> ?_) λe=> ?_
 refine Zs<|Zs<|Zs<|Zs<|Zb rfl<|Zb rfl<|Zb rfl<|Zb rfl<|ct<|Zt<|cZ (v:= .bool true) rfl ⟨hB,?_⟩
 exact YK b d e
 refine Zf rfl fw<|ZL onV rfl eh a rfl<|Zv (db (v:=onV) rfl (Below.slT hB hon) dQ)<|Zv (gQ rfl rfl)<|Zb rfl<|Zb rfl<|Zb rfl<|Zb rfl<|ct<|Zt<|cZ (v:= .bool _) rfl ⟨hB,?_⟩
 exact Yx b d e
 refine Zs<|Zs<|Zs<|Zs<|Zs<|Zs<|Zs<|Zs<|Zs<|Zb rfl<|Zb rfl<|Zb rfl<|ct<|Zt ?_
 refine cZ (v:= .bool false) rfl ⟨hB,?_⟩
 exact aaj b d
end
section
theorem Xp:cY Tryz.prog 26=true:=by kernel_rfl
set_option maxHeartbeats 4000000 in
theorem pJ (s:List UInt8) (b0 b1 c0 c1:Int) (w:World) (hgl:Gl w):
    Fn Tryz.prog 4 #[ea s, .agg #[.int .i64 b0, .int .i64 b1], .agg #[.int .i64 c0, .int .i64 c1]] w λv w'=>v= .bool true:=by
 refine cK (n:=113) Tryz.func4 rfl rfl rfl λhB=> ?_
 refine Zr<|Zy (du (c:= #[_,_]) rfl rfl λaR W3 aS N i=> ?_)
 replace hB:=Ze hB N
 refine Zy (du (c:= #[_,_]) rfl rfl λaT W6 aU O b=> ?_)
 obtain⟨hB,i⟩:=O.k2 hB i
 refine Zb rfl<|ct<|Zq<|Zr<|Zw (.string _) rfl<|Zv (cz rfl s7 rfl i)<|ZC (vs:=[.string _, .agg #[_,_]]) M6 (lQ s b0 b1 _) rfl λaV aW P Q=> ?_
 obtain⟨hB,i,b⟩:=P.k3 hB i b
 obtain rfl:=Q
 refine ZX rfl (λy=> ?_) λy=> ?_
 refine Zs<|Zs<|Zs<|Zb rfl<|ct<|cN rfl<|Zr<|ZC uH (fI _ (Gl.below hB hgl)) rfl λR aX S p=> ?_
 replace hB:=Ze hB S
 obtain rfl:=p
 refine Zb rfl<|ct<|Zt<|cZ (v:= .bool _) rfl ⟨hB,?_⟩
 rfl
 refine Zw (.string _) rfl<|Zv (cz rfl s7 rfl b)<|ZC (vs:=[.string _, .agg #[_,_]]) M6 (lQ s c0 c1 _) rfl λaY aZ T U=> ?_
 obtain⟨hB,i,b⟩:=T.k3 hB i b
 obtain rfl:=U
 refine Zb rfl<|ct<|ZQ rfl (λV=> ?_) λV=> ?_
 refine Zr<|ZC uH (fI _ (Gl.below hB hgl)) rfl λR a0 W p=> ?_
 replace hB:=Ze hB W
 obtain rfl:=p
 refine Zb rfl<|ct<|Zt<|cZ (v:= .bool _) rfl ⟨hB,?_⟩
 rfl
 refine cx ?_
 obtain⟨hl9,hfew⟩:=Fm y
 refine Zr<|Zw (.string _) rfl<|Zv (cz rfl s7 rfl i)<|ZC (vs:=[.string _, .agg #[_,_]]) Dj (sY s b0 b1 _ (Gl.below hB hgl) Om hfew) rfl λa1 a2 X Y=> ?_
 obtain⟨hB,b⟩:=X.k2 hB b
 obtain⟨tx3_2,how3_2,why3_2,rows3_2,ln3_2,e3_2,rfl,m⟩:=Y
 refine Zw (.tuple #[.agg #[.string _, .int .i64 _, .int .i64 _, .int .i64 _], .int .i64 _, .int .i64 _]) rfl<|Zv (gj rfl)<|Zv (iy rfl)<|Zv (ik rfl)<|Zy (cM wM rfl λa3 a4 Z aa a=> ?_)
 have ab:=ZO Z hB
 obtain⟨hB,b⟩:=aa.k2 hB b
 refine Zy (cA rfl rfl np rfl a rfl rfl λa5 z ac=> ?_)
 replace hB:=Zg hB z ab
 replace b:=At.grownAt b a z Dd
 replace a:=ac
 refine Zi rfl<|ZZ rfl<|Zr<|Zw (.string _) rfl<|Zv (cz rfl s7 rfl b)<|ZC (vs:=[.string _, .agg #[_,_]]) Dj (sY s c0 c1 _ (Gl.below hB hgl) Om hfew) rfl λa6 a7 ad ae=> ?_
 obtain⟨hB,a⟩:=ad.k2 hB a
 obtain⟨tx4_2,how4_2,why4_2,rows4_2,ln4_2,e4_2,rfl,q⟩:=ae
 refine Zw (.tuple #[.agg #[.string _, .int .i64 _, .int .i64 _, .int .i64 _], .int .i64 _, .int .i64 _]) rfl<|Zv (gj rfl)<|Zv (iy rfl)<|Zv (ik rfl)<|Zy (cM wM rfl λa8 a9 A af d=> ?_)
 have ag:=ZO A hB
 have ah:=Zn A a.lt
 obtain⟨hB,a⟩:=af.k2 hB a
 refine Zy (cA rfl rfl np rfl d rfl rfl λba B ai=> ?_)
 replace hB:=Zg hB B ag
 replace a:=At.grownNe a ah B
 replace d:=ai
 refine Zi rfl<|ZZ rfl<|Zq<|Zr<|Zi rfl<|Zv (eV rfl rfl)<|ZX rfl (λC=> ?_) λC=> ?_
 refine Zs<|Zs<|Zb rfl<|ct<|cN rfl<|Zr<|ZC uH (fI _ (Gl.below hB hgl)) rfl λaj bb ak r=> ?_
 replace hB:=Ze hB ak
 obtain rfl:=r
 refine Zb rfl<|ct<|Zt<|cZ (v:= .bool _) rfl ⟨hB,?_⟩
 rfl
 refine Zi rfl<|Zv (eV rfl rfl)<|Zb rfl<|ct<|ZQ rfl (λD=> ?_) λD=> ?_
 refine Zr<|ZC uH (fI _ (Gl.below hB hgl)) rfl λaj bc al r=> ?_
 replace hB:=Ze hB al
 obtain rfl:=r
 refine Zb rfl<|ct<|Zt<|cZ (v:= .bool _) rfl ⟨hB,?_⟩
 rfl
 refine cx ?_
 have he0:=aaS C
 have he1:=aaS D
 obtain⟨ao,hof,ap⟩:=Rg m hfew he0
 refine Zr<|Zw (.string _) rfl<|Zf rfl wB<|ZL (.string _) rfl lX a rfl<|ZC PQ (xL s tx3_2 _ (Gl.below hB hgl) Om (by have:=Pp m hfew;omega)) rfl λbd bf aq ar=> ?_
 obtain⟨hB,a,d⟩:=aq.k3 hB a d
 obtain⟨cb7_3,ce7_3,rfl,hC7_3⟩:=ar
 obtain⟨rfl,rfl⟩:=Gx m hfew he0 hC7_3
 refine Zw (.tuple #[.bool true, .int .i64 0]) rfl<|Zv (c7 rfl)<|Zv (da rfl)<|Zb rfl<|ZZ rfl<|Zr<|Zw (.string _) rfl<|Zf rfl wB<|ZL (.string _) rfl lX d rfl<|ZC PQ (xL s tx4_2 _ (Gl.below hB hgl) Om (by have:=Pp q hfew;omega)) rfl λbg bh au av=> ?_
 obtain⟨hB,a,d⟩:=au.k3 hB a d
 obtain⟨cb8_3,ce8_3,rfl,hC8_3⟩:=av
 obtain⟨rfl,rfl⟩:=Gx q hfew he1 hC8_3
 refine Zw (.tuple #[.bool true, .int .i64 0]) rfl<|Zv (c7 rfl)<|Zv (da rfl)<|Zb rfl<|ZZ rfl ?_
 have hrt:=xn ao
 refine Zr<|Zw (.string _) rfl<|ZC Ei (oT s _ (Gl.below hB hgl) Om) rfl λbi E aw ax=> ?_
 obtain⟨hB,a,d⟩:=aw.k3 hB a d
 obtain⟨ay,az,rfl,hsl9_1,t⟩:=ax
 replace hsl9_1:=cH.sl hsl9_1
 replace t:=gf.at t
 refine Zw (.tuple #[.agg #[.int .i64 _, .int .i64 _, .int .i64 _,ay], .int .i64 _, .int .i64 _]) rfl<|Zv (gj rfl)<|Zv (iy rfl)<|Zv (ik rfl) ?_
 have u:=Gl.below hB hgl
 have k:=hB
 replace hB:=Below.refl E.heap.size E
 refine Zy (cM pn rfl λbj bk aA aB e=> ?_)
 have aC:=ZO aA hB
 replace hB:=Ze hB aB
 refine Zy (cA rfl rfl dV rfl e rfl (by exact pl (dr.one hsl9_1)) λbl aD aE=> ?_)
 replace hB:=Zg hB aD aC
 replace e:=aE
 refine Zi rfl<|ZZ rfl<|Zr<|Zv (cz rfl dV rfl e)<|ZC (vs:=[.agg #[_,_,_,_]]) Es (sP (cF s).1 _ az _ (Below.slT hB hsl9_1) (qo.below hB t) (vS s)) rfl λbm bn aF x=> ?_
 have aG:=(Below.size hB)
 obtain⟨hB,e⟩:=aF.k2 hB e
 have F:=aG
 replace x:=x.resolve_right (λh=>h.1 hof)
 obtain⟨bo,aH,aI,rfl,f,g⟩:=x
 replace f:=cH.mono f F
 replace g:=cH.mono g F
 refine Zw (.tuple #[.agg #[.int .i64 _,aH,aI], .int .i64 0]) rfl<|Zv (c7 rfl)<|Zv (da rfl)<|Zy (cM ww rfl λbp bq aJ aK j=> ?_)
 have aL:=ZO aJ hB
 obtain⟨hB,e,f,g⟩:=aK.k4 hB e f g
 refine Zy (cA rfl rfl d9 rfl j rfl (by exact rB (dr.one (cH.sl f)) (dr.one (cH.sl g))) λbr o aM=> ?_)
 replace hB:=Zg hB o aL
 replace e:=At.grownAt e j o Dd
 replace f:=cH.grownAt f j o Dd
 replace g:=cH.grownAt g j o Dd
 replace j:=aM
 refine ZZ rfl<|Zq<|Zr<|Zv (cz rfl d9 rfl j)<|ZC (vs:=[.agg #[_,_,_]]) Xp (qs (eq (cF s).1) _ _ _ f.sl g.sl) rfl λbs bt aN G=> ?_
 obtain⟨hB,e,f,g,j⟩:=aN.k5 hB e f g j
 rw[ap]at G
 obtain rfl:=G
 refine Zb rfl<|Zb rfl<|Zv (eK rfl)<|Zb rfl<|Zb rfl<|Zb rfl<|Zv (eK rfl)<|Zb rfl<|Zb rfl<|Zi rfl<|Zv (eV rfl rfl)<|Zb rfl<|ZX rfl (λH=> ?_) λH=> ?_
 exact absurd rfl H
 refine Zi rfl<|Zv (eV rfl rfl)<|Zb rfl<|ct<|ZQ rfl (λI=> ?_) λI=> ?_
 exact absurd rfl I
 refine cx<|Zr<|Zf rfl tk<|Zl rfl cR (On hB a) rfl<|Zv (eV rfl rfl)<|ZX rfl (λJ=> ?_) λJ=> ?_
 refine Zs<|Zs<|Zs<|Zb rfl<|Zb rfl<|Zs<|Zs<|Zs<|Zs<|Zs<|Zb rfl<|Zb rfl<|ZC uH (fI _ (Gl.below hB u)) rfl λK bu aO l=> ?_
 replace hB:=Ze hB aO
 obtain rfl:=l
 refine Zb rfl<|Zb rfl<|ct ?_
 refine lV ?_
 have hzs:=go (am _) (Below.size k)
 replace hB:=Below.trans k (Below.mono hB hzs)
 repeat (first|refine dZ ?_|refine dI ?_)
 refine cZ (v:= .bool _) rfl ⟨hB,?_⟩
 rfl
 refine Zf rfl tk<|Zl rfl cR (On hB d) rfl<|Zv (eV rfl rfl)<|Zb rfl<|ZX rfl (λL=> ?_) λL=> ?_
 refine Zs<|Zs<|Zs<|Zs<|Zs<|Zb rfl<|Zb rfl<|ZC uH (fI _ (Gl.below hB u)) rfl λK bv aP l=> ?_
 replace hB:=Ze hB aP
 obtain rfl:=l
 refine Zb rfl<|Zb rfl<|ct ?_
 refine lV ?_
 have hzs:=go (am _) (Below.size k)
 replace hB:=Below.trans k (Below.mono hB hzs)
 repeat (first|refine dZ ?_|refine dI ?_)
 refine cZ (v:= .bool _) rfl ⟨hB,?_⟩
 rfl
 refine Zf rfl sV<|Zl rfl cR (On hB a) rfl<|Zf rfl sV<|Zl rfl cR (On hB d) rfl<|Zv (dO rfl rfl)<|Zb rfl<|ZX rfl (λM=> ?_) λM=> ?_
 refine ZC uH (fI _ (Gl.below hB u)) rfl λK bw aQ l=> ?_
 replace hB:=Ze hB aQ
 obtain rfl:=l
 refine Zb rfl<|Zb rfl<|ct ?_
 refine lV ?_
 have hzs:=go (am _) (Below.size k)
 replace hB:=Below.trans k (Below.mono hB hzs)
 repeat (first|refine dZ ?_|refine dI ?_)
 refine cZ (v:= .bool _) rfl ⟨hB,?_⟩
 rfl
 exact absurd (Uf m hfew he0 q he1 (aaS J) (aaS L)) M
end
end Go.Proofs.YtedeonkjellcpaaGreatDoor
