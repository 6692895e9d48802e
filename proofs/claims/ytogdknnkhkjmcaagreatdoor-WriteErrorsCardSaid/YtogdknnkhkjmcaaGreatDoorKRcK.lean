/- Lemmas on the programs that the statement reaches. -/
import Derived.Test.YtogdknnkhkjmcaaGreatDoorKRcJ
import Derived.Test.YtogdknnkhkjmcaaGreatDoorKRefN
namespace Go.Proofs.YtogdknnkhkjmcaaGreatDoor
open Go.RowKit
set_option linter.all false
set_option maxRecDepth 100000 in
set_option maxHeartbeats 4000000 in
theorem ref6_tokens (fs:List ByteArray)(A:Option Addr)(cp:Nat)(w:World)(K:Nat→Prop)(hb:∀b,K b→b<w.heap.size)(hsl:SlAt w K 1 (.slice A fs.length cp) fs.length (fs.map Value.string))(hfl:fs.length≤1000000):
  Z 59 #[.slice A fs.length cp] w fun e w'=>(match toksM fs with
   |none=>e= .returned (.tuple #[.slice none 0 0,.int .i64 4])
   |some l=>∃v,e= .returned (.tuple #[v,.int .i64 0])∧TokOwn w' (· <w.heap.size) v l)∧Keeps (· <w.heap.size) w w':=by
 have zz162:=PLift.up @c761;exact c760
set_option maxRecDepth 100000 in
set_option maxHeartbeats 2000000 in
theorem ref9_behind (p:PlanM)(P:Pools)(hP:P.ok)(hl:p.lays P)(t:Int)(w:World)(ha: -9223372036854775808≤t∧t≤9223372036854775807)(hr:(p.next t).2=true):
  Z 109 #[p.val,I t] w fun e w'=>e= .returned (I (p.next t).1)∧Keeps (· <w.heap.size) w w':=by
 have hcl:=fun w=>class_ref p P hP hl t w ha;have hrg:=p.cls_range t;have hmd:=fun k h=>@cls_mod p t k h;obtain⟨res,hres⟩:∃r,r=(p.next t).1:=⟨_,rfl⟩
 rw[←hres];have hnz:t≠0→∃k:Nat,k≤3∧(p.cls t).1=(k:Int)∧0≤(p.cls t).2∧(p.cls t).2<szK k∧res=if(p.cls t).2<szK k-1 then-1 else if k=3 then 3 else(k:Int)+1:=by
  intro h0
  rcases hrg with h|⟨k,hk,h⟩
  ·unfold PlanM.next at hr
   rw[if_neg h0,if_pos (Or.inl (by omega))]at hr
   cases hr
  ·obtain⟨m0,m1⟩:=hmd k h;refine⟨k,hk,h,m0,m1,?_⟩;rw[hres];unfold PlanM.next at hr ⊢
   rw[if_neg h0]at hr ⊢
   by_cases hz:(p.cls t).1<0∨(p.cls t).2=0
   ·rw[if_pos hz]at hr;cases hr
   ·rw[if_neg hz,h,Int.toNat_natCast]
    by_cases he:(p.cls t).2=szK k-1
    ·have hlt:¬(p.cls t).2<szK k-1:=by omega
     rw[if_pos he,show(if(p.cls t).2<szK k-1 then(-1:Int)else if k=3 then 3 else(k:Int)+1)=(if k=3 then 3 else(k:Int)+1)from if_neg hlt]
     dsimp only
     by_cases hk3:k=3
     ·subst hk3;rfl
     ·rw[if_pos (by omega:(k:Int)+1≤3),if_neg hk3]
    ·rw[if_neg he,if_pos (by omega)]
 have hz:t=0→res=0:=fun h=>by rw[hres];unfold PlanM.next;rw[if_pos h]
 clear hres hr hrg hmd;have Hnz:=hid hnz;have Hz:=hid hz;clear hnz hz;refine calls_hide fun R' hR'=>?_;unfold PlanM.val at*
 by_cases h0:t=0
 ·subst h0;have hr:=Hz.out rfl;have Hr:=hid hr;have Hcl:=hid hcl;clear hr hcl
  go_enter Tryz.func109,Tryz.ntmps109
  go_wp2_with fail
  refine hR'.out _ _ ⟨?_,?_⟩
  ·exact c59
  ·exact kA
 ·have h0b:(t==0)=false:=by simp[h0]
  obtain⟨k,hk,hck,hm0,hm1,hre⟩:=Hnz.out h0;rw[hck]at hcl;generalize (p.cls t).2=at9 at*;have hslab:=fun W=>slab_ref k hk W;rw[show((4^(k+1):Nat):Int)=szK k from by rcases(by omega:k=0∨k=1∨k=2∨k=3)with rfl|rfl|rfl|rfl<;>rfl]at hslab
  have hszb:=szK_bd k;obtain⟨z0,z1⟩:=hszb;have hwz:IntKind.i64.wrap (szK k-1)=szK k-1:=IntWalk.i64_in _ (by omega)
  clear hck h0;have Hcl:=hid hcl;have Hre:=hid hre;have Hslab:=hid hslab;clear hcl hre hslab
  go_enter Tryz.func109,Tryz.ntmps109
  go_wp2_with fail
  refine(Hcl.out _).mono ?_;rintro e w1 ⟨rfl,hk1⟩;have hK1:Keeps (· <w.heap.size) w w1:=by
   refine Keeps.trans ((Keeps.refl (· <w.heap.size) w).alloc (fun b hb=>hb) _) (hk1.mono fun b hb=>?_);have hb:b<w.heap.size:=hb;rw[World.size_alloc];omega
  clear hk1;have HK1:=hid hK1;clear hK1
  go_wp2_with fail
  refine(Hslab.out w1).mono ?_;rintro e w2 ⟨rfl,rfl⟩;generalize szK k=z at*
  by_cases hlt:at9<z-1
  ·have hr:res= -1:=by rw[Hre.out,if_pos hlt]
   clear Hre;exact c429
  ·by_cases hk3:k=3
   ·subst hk3;have hr:res=3:=by rw[Hre.out,if_neg hlt];rfl
    clear Hre;exact c429
   ·have hr:res=(k:Int)+1:=by rw[Hre.out,if_neg hlt,if_neg hk3]
    have hkb:((k:Int)==3)=false:=by simp;omega
    clear Hre hk3;exact c429
set_option maxRecDepth 100000 in
set_option maxHeartbeats 4000000 in
theorem ref9_putIn (cs:List Int)(p:PlanM)(P:Pools)(hP:P.ok)(hl:p.lays P)(u:V6)(t:Nat)(wd:Int)(A:Option Addr)(cp:Nat)(w:World)(K:Nat→Prop)(hb:∀b,K b→b<w.heap.size)(hsl:SlAt w K 1 (.slice A cs.length cp) cs.length (cs.map (Value.int .u32)))(hn0:0<cs.length)(hn:cs.length≤65536)
  (ht:(t:Int)≤65536) (hnx:p.next (t:Int)=(-1,true)) (htl:t+1<cs.length):
  Z 95 #[.slice A cs.length cp,p.val,u.val,I (t:Int),J wd] w fun e w'=>∃nb,e= .returned (.tuple #[.slice (some ⟨nb,0,none⟩) cs.length cs.length,I ((t:Int)+1),u.val,I 0])∧w.heap.size≤nb∧
    Blk w' nb ((cs.set (t+1) wd).map (Value.int .u32))∧Keeps (· <w.heap.size) w w':=by
 have zz7:=PLift.up @c165;exact c164
theorem rtakeK (p:PlanM)(u:V6)(k:Nat)(w:World)(hk:k≤3)(h0:0≤u.uK k)(h2:u.uK k+szK k≤p.sK k)(h3:p.sK k≤65536)(hb:0≤p.bK k∧p.bK k≤65536):
  Z 108 #[p.val,u.val,I (k:Int),I (szK k)] w fun e w'=>e= .returned (.tuple #[I (p.bK k+u.uK k),(u.up k (szK k)).val,I 0])∧Keeps (· <w.heap.size) w w':=by
 have hc:k=0∨k=1∨k=2∨k=3:=by omega
 rcases hc with rfl|rfl|rfl|rfl
 ·exact rtake0 p u 4 w (by decide) h0 h2 h3 hb
 ·exact rtake1 p u 16 w (by decide) h0 h2 h3 hb
 ·exact rtake2 p u 64 w (by decide) h0 h2 h3 hb
 ·exact rtake3 p u 256 w (by decide) h0 h2 h3 hb
theorem slabK (k:Nat)(hk:k≤3)(w:World):Z 67 #[I (k:Int)] w fun e w'=>e= .returned (I (szK k))∧w'=w:=by
 have hc:k=0∨k=1∨k=2∨k=3:=by omega
 rcases hc with rfl|rfl|rfl|rfl<;>exact slab_ref _ hk w
set_option maxRecDepth 100000 in
set_option maxHeartbeats 4000000 in
theorem ref9_putNew (cs:List Int)(p:PlanM)(P:Pools)(hP:P.ok)(hl:p.lays P)(u:V6)(t:Nat)(wd:Int)(A:Option Addr)(cp:Nat)(w:World)(K:Nat→Prop)(hb:∀b,K b→b<w.heap.size)(hsl:SlAt w K 1 (.slice A cs.length cp) cs.length (cs.map (Value.int .u32)))(hn0:0<cs.length)(hn:cs.length≤65536)
  (ht:(t:Int)≤65536) {k a:Nat} (hk:k≤3) (hnx:p.next (t:Int)=((k:Int),true)) (h0:0≤u.uK k) (h2:u.uK k+szK k≤p.sK k) (hpa:p.bK k+u.uK k=(a:Int)) (hal:a+1<cs.length):
  Z 95 #[.slice A cs.length cp,p.val,u.val,I (t:Int),J wd] w fun e w'=>∃nb,e= .returned (.tuple #[.slice (some ⟨nb,0,none⟩) cs.length cs.length,I ((a:Int)+1),(u.up k (szK k)).val,I 0])∧w.heap.size≤nb∧
    Blk w' nb ((putMem cs t a wd).map (Value.int .u32))∧Keeps (· <w.heap.size) w w':=by
 have htk:=fun W=>rtakeK p u k W hk h0 h2 ((hl.wf hP).s k).2 ((hl.wf hP).b k);rw[hpa]at htk;have hsb:=fun W=>slabK k hk W;generalize u.up k (szK k)=un at*;generalize szK k=z at*;obtain⟨n0,n1,n2,n3,n4,n5⟩:=un;clear h0 h2 hpa;have Htk:=hid htk;have Hsb:=hid hsb;clear htk hsb;have zz7:=PLift.up @c166;exact c164
end Go.Proofs.YtogdknnkhkjmcaaGreatDoor
