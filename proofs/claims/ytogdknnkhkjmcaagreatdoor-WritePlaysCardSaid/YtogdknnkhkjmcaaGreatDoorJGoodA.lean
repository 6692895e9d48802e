/- Contracts of the references: Right, Need. Printed by gen/refn.py. -/
import Derived.Test.YtogdknnkhkjmcaaGreatDoorJRef09
import Derived.Test.YtogdknnkhkjmcaaGreatDoorJRcA
namespace Go.Proofs.YtogdknnkhkjmcaaGreatDoor
open Go.RowKit
set_option linter.all false
set_option maxRecDepth 100000 in
set_option maxHeartbeats 4000000 in
theorem right_call (p:PlanM)(P:Pools)(hP:P.ok)(hl:p.lays P)(t:Int)(w:World)(ha: -9223372036854775808≤t∧t≤9223372036854775807):
  Calls Tryz.prog 91 #[p.val,I t] w fun e w'=>e= .returned (.bool (p.next t).2)∧Keeps (· <w.heap.size) w w':=by
 have hcl:=fun w=>class_ref p P hP hl t w ha;have hrg:=p.cls_range t;have hmd:=fun k h=>@cls_mod p t k h;have hnx:(p.next t).2=decide (t=0∨((p.cls t).1≥0∧(p.cls t).2>0)):=by
  rcases hrg with h|⟨k,hk,h⟩
  ·unfold PlanM.next
   by_cases h0:t=0
   ·rw[if_pos h0];simp[h0]
   ·rw[if_neg h0];rw[if_pos (by omega)];simp;omega
  ·have hm:=hmd k h;unfold PlanM.next
   by_cases h0:t=0
   ·rw[if_pos h0];simp[h0]
   ·rw[if_neg h0]
    by_cases h1:(p.cls t).2=0
    ·rw[if_pos (Or.inr h1)];simp;omega
    ·rw[if_neg (by omega)]
     split<;>simp<;>omega
 rw[hnx];clear hnx hmd hrg hP hl;refine calls_hide fun R' hR'=>?_;generalize p.cls t=cl at*;obtain⟨c1,c2⟩:=cl;simp only at hR';unfold PlanM.val at*;have HCL:=hid hcl;clear hcl
 go_enter Tryz.func91,Tryz.ntmps91
 go_wp2_with fail
 refine(HCL.out _).mono ?_;rintro e w1 ⟨rfl,hk1⟩;have hk:Keeps (· <w.heap.size) w w1:=((Keeps.refl _ _).alloc (fun b hb=>hb) _).trans (hk1.mono fun b hb=>by simp only[World.size_alloc];omega)
 clear hk1;have Hk:=hid hk;clear hk
 by_cases h0:t=0
 ·have g0:(t==0)=true:=by simpa using h0
  have HD:=hid (decide_eq_true (show t=0∨(c1≥0∧c2>0)from Or.inl h0))
  clear h0;exact c129
 ·have g0:(t==0)=false:=by simpa using h0
  by_cases h1:c1≥0
  ·have g1:decide (c1≥0)=true:=decide_eq_true h1
   by_cases h2:c2>0
   ·have g2:decide (c2>0)=true:=decide_eq_true h2;have HD:=hid (decide_eq_true (show t=0∨(c1≥0∧c2>0)from Or.inr ⟨h1,h2⟩))
    clear h0 h1 h2;exact c129
   ·have g2:decide (c2>0)=false:=decide_eq_false h2;have HD:=hid (decide_eq_false (show¬(t=0∨(c1≥0∧c2>0))from by omega))
    clear h0 h1 h2;exact c129
  ·have g1:decide (c1≥0)=false:=decide_eq_false h1;have HD:=hid (decide_eq_false (show¬(t=0∨(c1≥0∧c2>0))from by omega))
   clear h0 h1;exact c129
def PlanM.needRef (p:PlanM)(t n:Int):V6:=
 if(p.next t).2=false then zerosN
 else if t=0 then refL n.toNat 0 0 zerosN
 else refL n.toNat (szK (p.cls t).1.toNat-1-(p.cls t).2).toNat (min ((p.cls t).1.toNat+1) 3) zerosN
theorem need_eq (p:PlanM)(t n:Int):p.need t n=p.needRef t n:=by
 unfold PlanM.need PlanM.needRef
 by_cases h:(p.next t).2=false
 ·rw[if_pos h,if_pos h]
 ·rw[if_neg h,if_neg h];have h2:(p.next t).2=true:=by simpa using h
  have key:∀(room k:Nat) ,k≤3→needL (n.toNat+2) n room k zerosN=refL n.toNat room k zerosN:=by
   intro room k hk
   by_cases hn:0≤n
   ·obtain⟨m,rfl⟩:∃m:Nat,n=m:=⟨n.toNat,by omega⟩
    exact needL_ref _ _ _ _ _ hk (by simp only[Int.toNat_natCast];split<;>omega)
   ·rw[needL_neg _ _ _ _ _ (by omega) (by omega),show n.toNat=0 from by omega];rfl
  rcases next_range p t h2 with⟨h3,k,hk,hc,m0,m1⟩|⟨k,hk,h3⟩
  ·rw[if_pos (by omega)]
   have ht:t≠0:=by
    rintro rfl;unfold PlanM.next at h3
    rw[if_pos rfl]at h3
    simp at h3
   rw[if_neg ht,hc,show((k:Int)).toNat=k from by omega]
   have hz:=szK_bd k;have:=key (szK k-1-(p.cls t).2).toNat (min (k+1) 3) (by omega)
   rw[Int.toNat_of_nonneg (by omega)]at this
   exact this
  ·rw[if_neg (by omega),h3,show((k:Int)).toNat=k from by omega]
   by_cases ht:t=0
   ·rw[if_pos ht];have hk0:k=0:=by
     unfold PlanM.next at h3
     rw[if_pos ht]at h3
     simp at h3;omega
    subst hk0;exact key 0 0 (by omega)
   ·rw[if_neg ht];have hr:=p.cls_range t;unfold PlanM.next at h3 h2
    rw[if_neg ht]at h3 h2
    by_cases h5:(p.cls t).1<0∨(p.cls t).2=0
    ·rw[if_pos h5]at h2;cases h2
    ·rw[if_neg h5]at h3 h2
     rcases hr with e|⟨k',hk',e⟩
     ·exact absurd (Or.inl (by omega)) h5
     ·rw[e,show((k':Int)).toNat=k' from by omega]at h3 ⊢
      by_cases h6:(p.cls t).2=szK k'-1
      ·rw[if_pos h6]at h3;simp only at h3;rw[show k=min (k'+1) 3 from by split at h3<;>omega,h6,show(szK k'-1-(szK k'-1)).toNat=0 from by omega]
       exact key 0 _ (by omega)
      ·rw[if_neg h6]at h3;simp only at h3
       omega
set_option maxRecDepth 100000 in
set_option maxHeartbeats 8000000 in
theorem need_ref (p:PlanM)(P:Pools)(hP:P.ok)(hl:p.lays P)(t n:Int)(w:World)(ha: -9223372036854775808≤t∧t≤9223372036854775807)(hn: -9223372036854775808≤n∧n≤3000):
  Calls Tryz.prog 63 #[p.val,I t,I n] w fun e w'=>e= .returned (p.needRef t n).val∧Keeps (· <w.heap.size) w w':=by
 obtain⟨n0,n1⟩:=hn;have hrt:=fun w=>right_call p P hP hl t w ha;have hcl:=fun w=>class_ref p P hP hl t w ha;have hrg:=p.cls_range t;have hmd:=fun k h=>@cls_mod p t k h;have hnc:(p.next t).2=true→t≠0→(p.cls t).1≥0:=by
  intro h h0;unfold PlanM.next at h
  rw[if_neg h0]at h
  by_cases h5:(p.cls t).1<0∨(p.cls t).2=0
  ·rw[if_pos h5]at h;cases h
  ·omega
 clear hP hl ha;refine calls_hide fun R' hR'=>?_;unfold PlanM.needRef at hR';generalize (p.next t).2=x2 at*
 generalize p.cls t=cl at*;obtain⟨c1,c2⟩:=cl;simp only at hR' hrg hmd hnc;unfold PlanM.val at*;have HRT:=hid hrt;have HCL:=hid hcl;have HRG:=hid hrg;have HMD:=hid hmd;have HNC:=hid hnc;clear hrt hcl hrg hmd hnc
 go_enter Tryz.func63,Tryz.ntmps63
 go_wp2_with fail
 refine calls_gen (fun W=>Blk W w.heap.size p.flat∧Blk W (w.heap.size+1) [I 0,I 0,I 0,I 0,I 0,I 0]∧Blk W (w.heap.size+1+1) [I 0,I 0,I 0,I 0,I 0,I 0]∧Keeps (· <w.heap.size) w W) ⟨?_,?_,?_,?_⟩ (fun W0 HW=>?_)
 ·exact c148
 ·exact nA
 ·exact nA
 ·exact kA
 obtain⟨hA0,hA1,hA2,hkA⟩:=HW;refine(HRT.out W0).mono ?_;have zz160:=@c754;exact c752
def TailIs (P:Pools)(q:Nat→Nat)(t:Nat)(x:Option (Nat×Nat×Nat)):Prop:=
 (x=none∧t=0)∨∃k i a,x=some (k,i,a)∧P.In k i t a∧i<q k∧1≤a
theorem TailIs.mono {P:Pools}{q q':Nat→Nat}{t:Nat}{x:Option (Nat×Nat×Nat)}(h:TailIs P q t x)(hq:∀k,q k≤q' k):TailIs P q' t x:=by
 rcases h with h|⟨k,i,a,h1,h2,h3,h4⟩
 ·exact Or.inl h
 ·exact Or.inr ⟨k,i,a,h1,h2,Nat.lt_of_lt_of_le h3 (hq k),h4⟩
theorem TailIs.need {p:PlanM}{P:Pools}(hP:P.ok)(hl:p.lays P){q:Nat→Nat}{t:Nat}{x:Option (Nat×Nat×Nat)}(h:TailIs P q t x)(z:Int):p.need (t:Int) z=refL z.toNat (leftOf x) (classOf x) zerosN:=by
 rw[need_eq];unfold PlanM.needRef
 rcases h with⟨rfl,rfl⟩|⟨k,i,a,rfl,hin,_,ha1⟩
 ·rw[show((0:Nat):Int)=0 from rfl,next_zero,if_neg (by decide),if_pos rfl];rfl
 ·have hk:=hin.1;have ha2:=hin.2.2.1;have hx:=in_lt hP hin;have hc:=cls_of hP hl hin;have hz:=szK_eq hk;have hnx:(p.next (t:Int)).2=true:=by
   by_cases he:a+1<sz k
   ·rw[next_mid hP hl hin ha1 he]
   ·rw[next_end hP hl hin (by omega)]
  rw[hnx,if_neg (by decide),if_neg (by omega),hc]
  simp only;rw[show((k:Int)).toNat=k from by omega,hz,show((sz k:Int)-1-(a:Int)).toNat=sz k-1-a from by omega]
  rfl
def PutsTo (p:PlanM)(cs:List Int)(u:V6)(t:Nat)(wd:Int)(cs2:List Int)(t2:Nat)(u2:V6):Prop:=
 (p.next (t:Int)=(-1,true)∧t+1<cs.length∧cs2=cs.set (t+1) wd∧t2=t+1∧u2=u)∨
 ∃k a:Nat,k≤3∧p.next (t:Int)=((k:Int),true)∧0≤u.uK k∧u.uK k+szK k≤p.sK k∧p.bK k+u.uK k=(a:Int)∧a+1<cs.length∧cs2=putMem cs t a wd∧t2=a+1∧u2=u.up k (szK k)
theorem PutsTo.len {p:PlanM}{cs cs2:List Int}{u u2:V6}{t t2:Nat}{wd:Int}(h:PutsTo p cs u t wd cs2 t2 u2):cs2.length=cs.length∧t2<cs.length:=by
 rcases h with⟨_,h1,rfl,rfl,_⟩|⟨k,a,_,_,_,_,_,h1,rfl,rfl,_⟩
 ·exact⟨List.length_set ..,h1⟩
 ·refine⟨?_,h1⟩;unfold putMem
  split<;>simp
theorem PutsTo.ideal {p:PlanM}{cs cs2:List Int}{u u2:V6}{t t2:Nat}{wd:Int}(h:PutsTo p cs u t wd cs2 t2 u2):∃n,n≤2∧(postPutT p u t wd).ideal cs=some (((t2:Int),u2),cs2,n):=by
 unfold postPutT
 rcases h with⟨h1,h2,rfl,rfl,rfl⟩|⟨k,a,hk,h1,h2,h3,h4,h5,rfl,rfl,rfl⟩
 ·rw[h1,if_neg (by decide),if_pos (by decide),Tree.ideal_bind,putIn_ideal cs t wd h2]
  exact⟨1,by decide,rfl⟩
 ·rw[h1,if_neg (fun h=>Bool.noConfusion h),if_neg (by omega)]
  simp only[Int.toNat_natCast];rw[if_neg (by omega),Tree.ideal_bind,h4]
  obtain⟨n,hn,hi⟩:=putNew_ideal cs t a wd h5;rw[hi];refine⟨n,hn,?_⟩
  simp[Tree.ideal]
theorem TailIs.put {p:PlanM}{P:Pools}(hP:P.ok)(hl:p.lays P){q:Nat→Nat}{t:Nat}{x:Option (Nat×Nat×Nat)}(h:TailIs P q t x){u:V6}(hu:UsedIs u q){m:Nat}(hf:∀k,k≤3→(refL (m+1)(leftOf x)(classOf x) u).uK k≤p.sK k)
  {cs:List Int} (hlen:P.b 3+256*P.n 3≤cs.length) (wd:Int):
  ∃cs2 t2 u2 q2 x2,PutsTo p cs u t wd cs2 t2 u2∧TailIs P q2 t2 x2∧UsedIs u2 q2∧(∀k,q k≤q2 k)∧refL (m+1) (leftOf x) (classOf x) u=refL m (leftOf x2) (classOf x2) u2∧
   (∀i,(i<3∨P.b 3+256*P.n 3≤i)→cs2[i]? =cs[i]?)∧u2.a4=u.a4∧u2.a5=u.a5:=by
 by_cases h0:leftOf x=0
 ·--a slab is taken
  have hc:classOf x≤3:=by
   rcases h with⟨rfl,_⟩|⟨k,i,a,rfl,_⟩
   ·exact Nat.zero_le _
   ·exact Nat.min_le_right _ _
  generalize hcx:classOf x=c at*;have hnx:p.next (t:Int)=((c:Int),true):=by
   rcases h with⟨rfl,rfl⟩|⟨k,i,a,rfl,hin,_,ha1⟩
   ·rw[←hcx];exact next_zero p
   ·have h9:sz k-1-a=0:=h0;have:=hin.2.2.1;rw[next_end hP hl hin (by omega),←hcx];rfl
  have hq:=hu c hc;have hcap:q c<P.n c:=by
   have h1:=hf c hc;rw[refL,if_pos h0]at h1;have h2:=refL_ge m (sz c-2) (min (c+1) 3) (u.up c (szK c)) c;have h3:(u.up c (szK c)).uK c=u.uK c+szK c:=by rw[uK_up hc hc,if_pos rfl]
   rw[h3,hq,szK_eq hc]at h2;rw[hl.s c hc]at h1;have h4:(sz c*q c+sz c:Nat)≤sz c*P.n c:=by
    rw[szK_eq hc]at h1;have h6:=Int.le_trans h2 h1;generalize sz c*q c=X at h6 ⊢;generalize sz c*P.n c=Y at h6 ⊢
    omega
   have h5:sz c*(q c+1)≤sz c*P.n c:=by rw[Nat.mul_add,Nat.mul_one];exact h4
   have:=Nat.le_of_mul_le_mul_left h5 (by have:=sz_ge hc;omega)
   omega
  have hin2:P.In c (q c) (P.b c+sz c*q c+1) 1:=⟨hc,hcap,by have:=sz_ge hc;omega,rfl⟩
  have hlt:=in_lt hP hin2;have hin1:P.In c (q c) (P.b c+sz c*q c) 0:=⟨hc,hcap,by have:=sz_ge hc;omega,rfl⟩
  have hlt1:=in_lt hP hin1;refine⟨putMem cs t (P.b c+sz c*q c) wd,P.b c+sz c*q c+1,u.up c (szK c),updQ q c,some (c,q c,1),Or.inr ⟨c,P.b c+sz c*q c,hc,hnx,by rw[hq];omega,?_,?_,by omega,rfl,rfl,rfl⟩,Or.inr ⟨c,q c,1,rfl,hin2,by unfold updQ;rw[if_pos rfl];omega,Nat.le_refl _⟩,hu.up hc,fun k=>?_,?_,fun i hi=>?_,?_,?_⟩
  ·rw[hq,hl.s c hc,szK_eq hc];have:sz c*(q c+1)≤sz c*P.n c:=Nat.mul_le_mul_left _ hcap;rw[Nat.mul_add,Nat.mul_one]at this
   omega
  ·rw[hq,hl.b c hc];omega
  ·unfold updQ;split
   ·rename_i e;subst e;omega
   ·exact Nat.le_refl _
  ·rw[refL,if_pos h0];rfl
  ·unfold putMem
   split
   ·rw[set_get_ne (by omega)]
   ·rw[set_get_ne (by omega),set_get_ne (by omega)]
  ·unfold V6.up;split<;>rfl
  ·unfold V6.up;split<;>rfl
 ·rcases h with⟨rfl,rfl⟩|⟨k,i,a,rfl,hin,hi,ha1⟩
  ·exact absurd rfl h0
  ·have ha2:=hin.2.2.1;have hlf:leftOf (some (k,i,a))=sz k-1-a:=rfl;have h9:a+1<sz k:=by rw[hlf]at h0;omega
   have hin2:=In.succ hin h9;have hlt:=in_lt hP hin2;refine⟨cs.set (t+1) wd,t+1,u,q,some (k,i,a+1),Or.inl ⟨next_mid hP hl hin ha1 h9,by omega,rfl,rfl,rfl⟩,Or.inr ⟨k,i,a+1,rfl,hin2,hi,by omega⟩,hu,fun _=>Nat.le_refl _,?_,fun i hi=>?_,rfl,rfl⟩
   ·rw[refL,if_neg h0,hlf];show refL m (sz k-1-a-1) _ u=refL m (sz k-1-(a+1)) _ u;rw[show sz k-1-a-1=sz k-1-(a+1)from by omega];rfl
   ·rw[set_get_ne (by omega)]
end Go.Proofs.YtogdknnkhkjmcaaGreatDoor
