/- Lemmas on the programs that the statement reaches. -/
import Derived.Test.YtogdknnkhkjmcaaGreatDoorKWrN
namespace Go.Proofs.YtogdknnkhkjmcaaGreatDoor
open Go.RowKit
set_option linter.all false
set_option maxRecDepth 100000 in
set_option maxHeartbeats 4000000 in
theorem right_call (p:PlanM)(P:Pools)(hP:P.ok)(hl:p.lays P)(t:Int)(w:World)(ha: -9223372036854775808≤t∧t≤9223372036854775807):
  Z 91 #[p.val,I t] w fun e w'=>e= .returned (.bool (p.next t).2)∧Keeps (· <w.heap.size) w w':=by
 have hcl:=fun w=>class_ref p P hP hl t w ha;have hrg:=p.cls_range t;have hmd:=fun k h=>@cls_mod p t k h;have hnx:(p.next t).2=decide (t=0∨((p.cls t).1≥0∧(p.cls t).2>0)):=by
  rcases hrg with h|⟨k,hk,h⟩
  ·unfold PlanM.next
   by_cases h0:t=0
   ·rw[if_pos h0];simp[h0]
   ·rw[if_neg h0];rw[if_pos (by omega)];simp;omega
  ·have hm:=hmd k h;unfold PlanM.next
   by_cases h0:t=0
   ·rw[if_pos h0];simp[h0]
   ·rw[if_neg h0]
    by_cases h1:(p.cls t).2=0
    ·rw[if_pos (Or.inr h1)];simp;omega
    ·rw[if_neg (by omega)]
     split<;>simp<;>omega
 rw[hnx];clear hnx hmd hrg hP hl;refine calls_hide fun R' hR'=>?_;generalize p.cls t=cl at*;obtain⟨c1,c2⟩:=cl;simp only at hR';unfold PlanM.val at*;have HCL:=hid hcl;clear hcl
 go_enter Tryz.func91,Tryz.ntmps91
 go_wp2_with fail
 refine(HCL.out _).mono ?_;rintro e w1 ⟨rfl,hk1⟩;have hk:Keeps (· <w.heap.size) w w1:=((Keeps.refl _ _).alloc (fun b hb=>hb) _).trans (hk1.mono fun b hb=>by simp only[World.size_alloc];omega)
 clear hk1;have Hk:=hid hk;clear hk
 by_cases h0:t=0
 ·have g0:(t==0)=true:=by simpa using h0
  have HD:=hid (decide_eq_true (show t=0∨(c1≥0∧c2>0)from Or.inl h0))
  clear h0;exact c122
 ·have g0:(t==0)=false:=by simpa using h0
  by_cases h1:c1≥0
  ·have g1:decide (c1≥0)=true:=decide_eq_true h1
   by_cases h2:c2>0
   ·have g2:decide (c2>0)=true:=decide_eq_true h2;have HD:=hid (decide_eq_true (show t=0∨(c1≥0∧c2>0)from Or.inr ⟨h1,h2⟩))
    clear h0 h1 h2;exact c122
   ·have g2:decide (c2>0)=false:=decide_eq_false h2;have HD:=hid (decide_eq_false (show¬(t=0∨(c1≥0∧c2>0))from by omega))
    clear h0 h1 h2;exact c122
  ·have g1:decide (c1≥0)=false:=decide_eq_false h1;have HD:=hid (decide_eq_false (show¬(t=0∨(c1≥0∧c2>0))from by omega))
   clear h0 h1;exact c122
def PlanM.needRef (p:PlanM)(t n:Int):V6:=
 if(p.next t).2=false then zerosN
 else if t=0 then refL n.toNat 0 0 zerosN
 else refL n.toNat (szK (p.cls t).1.toNat-1-(p.cls t).2).toNat (min ((p.cls t).1.toNat+1) 3) zerosN
theorem need_eq (p:PlanM)(t n:Int):p.need t n=p.needRef t n:=by
 unfold PlanM.need PlanM.needRef
 by_cases h:(p.next t).2=false
 ·rw[if_pos h,if_pos h]
 ·rw[if_neg h,if_neg h];have h2:(p.next t).2=true:=by simpa using h
  have key:∀(room k:Nat) ,k≤3→needL (n.toNat+2) n room k zerosN=refL n.toNat room k zerosN:=by
   intro room k hk
   by_cases hn:0≤n
   ·obtain⟨m,rfl⟩:∃m:Nat,n=m:=⟨n.toNat,by omega⟩
    exact needL_ref _ _ _ _ _ hk (by simp only[Int.toNat_natCast];split<;>omega)
   ·rw[needL_neg _ _ _ _ _ (by omega) (by omega),show n.toNat=0 from by omega];rfl
  rcases next_range p t h2 with⟨h3,k,hk,hc,m0,m1⟩|⟨k,hk,h3⟩
  ·rw[if_pos (by omega)]
   have ht:t≠0:=by
    rintro rfl;unfold PlanM.next at h3
    rw[if_pos rfl]at h3
    simp at h3
   rw[if_neg ht,hc,show((k:Int)).toNat=k from by omega]
   have hz:=szK_bd k;have:=key (szK k-1-(p.cls t).2).toNat (min (k+1) 3) (by omega)
   rw[Int.toNat_of_nonneg (by omega)]at this
   exact this
  ·rw[if_neg (by omega),h3,show((k:Int)).toNat=k from by omega]
   by_cases ht:t=0
   ·rw[if_pos ht];have hk0:k=0:=by
     unfold PlanM.next at h3
     rw[if_pos ht]at h3
     simp at h3;omega
    subst hk0;exact key 0 0 (by omega)
   ·rw[if_neg ht];have hr:=p.cls_range t;unfold PlanM.next at h3 h2
    rw[if_neg ht]at h3 h2
    by_cases h5:(p.cls t).1<0∨(p.cls t).2=0
    ·rw[if_pos h5]at h2;cases h2
    ·rw[if_neg h5]at h3 h2
     rcases hr with e|⟨k',hk',e⟩
     ·exact absurd (Or.inl (by omega)) h5
     ·rw[e,show((k':Int)).toNat=k' from by omega]at h3 ⊢
      by_cases h6:(p.cls t).2=szK k'-1
      ·rw[if_pos h6]at h3;simp only at h3;rw[show k=min (k'+1) 3 from by split at h3<;>omega,h6,show(szK k'-1-(szK k'-1)).toNat=0 from by omega]
       exact key 0 _ (by omega)
      ·rw[if_neg h6]at h3;simp only at h3
       omega
set_option maxRecDepth 100000 in
set_option maxHeartbeats 8000000 in
theorem need_ref (p:PlanM)(P:Pools)(hP:P.ok)(hl:p.lays P)(t n:Int)(w:World)(ha: -9223372036854775808≤t∧t≤9223372036854775807)(hn: -9223372036854775808≤n∧n≤3000):
  Z 63 #[p.val,I t,I n] w fun e w'=>e= .returned (p.needRef t n).val∧Keeps (· <w.heap.size) w w':=by
 obtain⟨n0,n1⟩:=hn;have hrt:=fun w=>right_call p P hP hl t w ha;have hcl:=fun w=>class_ref p P hP hl t w ha;have hrg:=p.cls_range t;have hmd:=fun k h=>@cls_mod p t k h;have hnc:(p.next t).2=true→t≠0→(p.cls t).1≥0:=by
  intro h h0;unfold PlanM.next at h
  rw[if_neg h0]at h
  by_cases h5:(p.cls t).1<0∨(p.cls t).2=0
  ·rw[if_pos h5]at h;cases h
  ·omega
 clear hP hl ha;refine calls_hide fun R' hR'=>?_;unfold PlanM.needRef at hR';generalize (p.next t).2=x2 at*
 generalize p.cls t=cl at*;obtain⟨c1,c2⟩:=cl;simp only at hR' hrg hmd hnc;unfold PlanM.val at*;have HRT:=hid hrt;have HCL:=hid hcl;have HRG:=hid hrg;have HMD:=hid hmd;have HNC:=hid hnc;clear hrt hcl hrg hmd hnc
 go_enter Tryz.func63,Tryz.ntmps63
 go_wp2_with fail
 refine calls_gen (fun W=>Blk W w.heap.size p.flat∧Blk W (w.heap.size+1) [I 0,I 0,I 0,I 0,I 0,I 0]∧Blk W (w.heap.size+1+1) [I 0,I 0,I 0,I 0,I 0,I 0]∧Keeps (· <w.heap.size) w W) ⟨?_,?_,?_,?_⟩ (fun W0 HW=>?_)
 ·exact c142
 ·exact nA
 ·exact nA
 ·exact kA
 obtain⟨hA0,hA1,hA2,hkA⟩:=HW;refine(HRT.out W0).mono ?_;have zz150:=PLift.up @c713;exact c711
end Go.Proofs.YtogdknnkhkjmcaaGreatDoor
