/- Lemmas on the programs that the statement reaches. -/
import Derived.Test.YtogdknnkhkjmcaaGreatDoorKPoolT
namespace Go.Proofs.YtogdknnkhkjmcaaGreatDoor
open Go.RowKit
set_option linter.all false
def needL:Nat→Int→Int→Nat→V6→V6
 |0,_,_,_,out=>out
 |f+1,n,room,k,out=>if n>room then needL f (n-room) (szK k-1) (min (k+1) 3) (out.up k (szK k))else out
def zerosN:V6:=⟨0,0,0,0,0,0⟩
def PlanM.need (p:PlanM)(t n:Int):V6:=
 if(p.next t).2=false then zerosN
 else if(p.next t).1<0 then needL (n.toNat+2) n (szK (p.cls t).1.toNat-1-(p.cls t).2) (min ((p.cls t).1.toNat+1) 3) zerosN
 else needL (n.toNat+2) n 0 (p.next t).1.toNat zerosN
theorem szK_bd (k:Nat):4≤szK k∧szK k≤256:=by
 unfold szK;split<;>omega
theorem cls_mod (p:PlanM)(a:Int){k:Nat}(h:(p.cls a).1=(k:Int)):0≤(p.cls a).2∧(p.cls a).2<szK k:=by
 unfold PlanM.cls at h ⊢
 split at h
 ·rw[if_pos (by assumption)]
  simp only at h ⊢;obtain rfl:k=0:=by omega
  simp only[szK];omega
 ·rw[if_neg (by assumption)]
  split at h
  ·rw[if_pos (by assumption)]
   simp only at h ⊢;obtain rfl:k=1:=by omega
   simp only[szK];omega
  ·rw[if_neg (by assumption)]
   split at h
   ·rw[if_pos (by assumption)]
    simp only at h ⊢;obtain rfl:k=2:=by omega
    simp only[szK];omega
   ·rw[if_neg (by assumption)]
    split at h
    ·rw[if_pos (by assumption)]
     simp only at h ⊢;obtain rfl:k=3:=by omega
     simp only[szK];omega
    ·simp only at h;omega
theorem next_range (p:PlanM)(t:Int)(h:(p.next t).2=true):((p.next t).1= -1∧∃k:Nat,k≤3∧(p.cls t).1=(k:Int)∧0≤(p.cls t).2∧(p.cls t).2+1<szK k)∨∃k:Nat,k≤3∧(p.next t).1=(k:Int):=by
 have hr:=p.cls_range t;unfold PlanM.next at h ⊢
 split
 ·exact Or.inr ⟨0,by omega,rfl⟩
 ·split
  ·rename_i h3
   simp[*]at h
  ·split
   ·rename_i h3 h4 h5
    rcases hr with e|⟨k,hk,e⟩
    ·exact absurd (Or.inl (by omega)) h4
    ·refine Or.inr ⟨min (k+1) 3,by omega,?_⟩
     simp only;rw[e];split<;>omega
   ·rename_i h3 h4 h5
    rcases hr with e|⟨k,hk,e⟩
    ·exact absurd (Or.inl (by omega)) h4
    ·have hm:=cls_mod p t e;rw[e,show((k:Int)).toNat=k from by omega]at h5
     exact Or.inl ⟨rfl,k,hk,e,hm.1,by omega⟩
theorem zerosN_uK (i:Nat):zerosN.uK i=0:=by unfold V6.uK zerosN;split<;>rfl
theorem uK_up {o:V6}{c k:Nat}(hc:c≤3)(hk:k≤3)(z:Int):(o.up c z).uK k=if k=c then o.uK k+z else o.uK k:=by
 have h1:c=0∨c=1∨c=2∨c=3:=by omega
 have h2:k=0∨k=1∨k=2∨k=3:=by omega
 rcases h1 with rfl|rfl|rfl|rfl<;>rcases h2 with rfl|rfl|rfl|rfl<;>simp[V6.up,V6.uK]
set_option maxRecDepth 100000 in
set_option maxHeartbeats 8000000 in
theorem need_call (p:PlanM)(t n:Int)(w:World)(hp:p.Wf)(ht:PTab w)(ha: -9223372036854775808≤t∧t≤9223372036854775807)(hn: -9223372036854775808≤n∧n≤3000):
  Z 78 #[p.val,I t,I n] w fun e w'=>e= .returned (p.need t n).val∧Keeps (· <w.heap.size) w w':=by
 have HT:=hid ht;have HP:=hid hp;have HA:=hid ha;obtain⟨n0,n1⟩:=hn;have hmin:min n 1000000=n:=Int.min_eq_left (by omega)
 have hnx:=fun w hw=>next_call p t w HP.out hw HA.out;have hcl:=fun w hw=>class_call p t w HP.out hw HA.out;have hrg:=next_range p t;have HND:Hid (p.need t n=p.need t n):=rfl;clear hp ht ha;refine calls_hide fun R' hR'=>?_;unfold PlanM.need at hR';generalize p.next t=nx at*
 generalize p.cls t=cl at*;obtain⟨x1,x2⟩:=nx;obtain⟨c1,c2⟩:=cl;simp only at hrg hR';unfold PlanM.val at*;have Hrg:=hid hrg;clear hrg
 go_enter Tryz.func78,Tryz.ntmps78
 go_wp2_with fail
 refine calls_gen (fun W=>Blk W w.heap.size p.flat∧Blk W (w.heap.size+1) [I 0,I 0,I 0,I 0,I 0,I 0]∧Blk W (w.heap.size+1+1) [I 0,I 0,I 0,I 0,I 0,I 0]∧Keeps (· <w.heap.size) w W) ⟨?_,?_,?_,?_⟩ (fun W0 HW=>?_)
 ·exact c107
 ·exact bA
 ·exact bA
 ·exact kA
 obtain⟨hA0,hA1,hA2,hkA⟩:=HW;refine(hnx W0 (HT.out.keep hkA HT.out.2.2.2.2)).mono ?_;have zz150:=PLift.up @c712;exact c711
end Go.Proofs.YtogdknnkhkjmcaaGreatDoor
