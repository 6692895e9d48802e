/- Lemmas on the programs that the statement reaches. -/
import Derived.Test.YtogdknnkhkjmcaaGreatDoorKLayG
namespace Go.Proofs.YtogdknnkhkjmcaaGreatDoor
open Go.RowKit
set_option linter.all false
set_option maxRecDepth 100000 in
set_option maxHeartbeats 1000000 in
theorem lay_mid (c:ConfM)(h:c.ok)(ht:128≤c.terms)(ht2:c.terms<256)(hall:c.all≤65536)(w:World):
  Z 28 #[.agg c.list.toArray] w fun e w'=>e= .returned (.tuple #[c.plan.val,I 0])∧Keeps (· <w.heap.size) w w':=by
 have zz11:=PLift.up @c183;exact c182
set_option maxRecDepth 100000 in
set_option maxHeartbeats 1000000 in
theorem lay_big (c:ConfM)(h:c.ok)(ht:256≤c.terms)(ht2:128≤c.terms)(hall:c.all≤65536)(w:World):
  Z 28 #[.agg c.list.toArray] w fun e w'=>e= .returned (.tuple #[c.plan.val,I 0])∧Keeps (· <w.heap.size) w w':=by
 have zz11:=PLift.up @c184;exact c182
def PlanM.zero:PlanM:=⟨⟨0,0,0,0,0,0⟩,⟨0,0,0,0,0,0⟩,0,0,0⟩
theorem lay_yes (c:ConfM)(h:c.ok)(hall:c.all≤65536)(w:World):
  Z 28 #[.agg c.list.toArray] w fun e w'=>e= .returned (.tuple #[c.plan.val,I 0])∧Keeps (· <w.heap.size) w w':=by
 by_cases h1:c.terms<128
 ·exact lay_small c h h1 hall w
 ·by_cases h2:c.terms<256
  ·exact lay_mid c h (by omega) h2 hall w
  ·exact lay_big c h (by omega) (by omega) hall w
theorem sizes_no (c:ConfM)(h:¬(c.ok∧c.all≤65536))(w:World):
  Z 40 #[.agg c.list.toArray] w fun e w'=>∃u:V6,e= .returned (.tuple #[u.val,.bool false])∧Keeps (· <w.heap.size) w w':=by
 by_cases g:c.docs<1∨c.docs>64∨c.terms<64∨c.terms>256∨c.book<0∨c.book>65536∨c.room<0∨c.room>65536
 ·exact sizes_out c g w
 ·have d0:1≤c.docs:=by omega
  have d1:c.docs≤64:=by omega
  have t0:64≤c.terms:=by omega
  have t1:c.terms≤256:=by omega
  have k0:0≤c.book:=by omega
  have k1:c.book≤65536:=by omega
  have r0:0≤c.room:=by omega
  have r1:c.room≤65536:=by omega
  by_cases g0:c.s0<0∨c.s0>512
  ·exact sizes_bad0 c d0 d1 t0 t1 k0 k1 r0 r1 trivial g0 w
  ·by_cases g1:c.s1<0∨c.s1>512
   ·exact sizes_bad1 c d0 d1 t0 t1 k0 k1 r0 r1 (by omega) g1 w
   ·by_cases g2:c.s2<0∨c.s2>512
    ·exact sizes_bad2 c d0 d1 t0 t1 k0 k1 r0 r1 (by omega) g2 w
    ·by_cases g3:c.s3<0∨c.s3>512
     ·exact sizes_bad3 c d0 d1 t0 t1 k0 k1 r0 r1 (by omega) g3 w
     ·have hok:c.ok:=⟨d0,d1,t0,t1,by omega,by omega,by omega,by omega,by omega,by omega,by omega,by omega,k0,k1,r0,r1⟩
      have hall:¬c.all≤65536:=fun e=>h ⟨hok,e⟩;refine(sizes_ok c hok w).mono ?_;rintro e w' ⟨rfl,hk⟩;rw[decide_eq_false hall];exact⟨⟨szC c 0,szC c 1,szC c 2,szC c 3,szC c 4,szC c 5⟩,rfl,hk⟩
set_option maxRecDepth 100000 in
set_option maxHeartbeats 2000000 in
theorem lay_no (c:ConfM)(h:¬(c.ok∧c.all≤65536))(w:World):
  Z 28 #[.agg c.list.toArray] w fun e w'=>e= .returned (.tuple #[PlanM.zero.val,I 1])∧Keeps (· <w.heap.size) w w':=by
 have HS:=hid (sizes_no c h);obtain⟨docs,terms,s0,s1,s2,s3,book,room,kk,bb⟩:=c;unfold ConfM.list at*;clear h;refine calls_hide fun R' hR'=>?_
 go_enter Tryz.func28,Tryz.ntmps28
 go_wp2_with fail
 refine calls_gen (fun W=>Blk W (w.heap.size+1) PlanM.zero.flat∧Keeps (· <w.heap.size) w W) ⟨?_,?_⟩ ?_
 ·unfold PlanM.flat PlanM.zero;exact bA
 ·exact kA
 rintro W ⟨hB1,hk⟩;refine(HS.out W).mono ?_;rintro e w1 ⟨u,rfl,hk1⟩;have hC1:=hB1.keep hk1 hB1.lt;have hkk:=hk.trans (hk1.mono fun b hb=>by have:=hB1.lt;omega)
 unfold V6.val;unfold PlanM.flat PlanM.zero at hC1;clear hB1 hk hk1;have hlb:w.heap.size+1<w1.heap.size:=hC1.lt
 go_upto_if 15 with fail
 refine wp_gen (fun W=>Blk W (w.heap.size+1) [I 0,I 0,I 0,I 0,I 0,I 0,I 0,I 0,I 0,I 0,I 0,I 0,I 0,I 0,I 0]∧Keeps (· <w.heap.size) w W) ⟨?_,?_⟩ ?_
 ·exact bA
 ·exact kA
 clear hC1 hkk;rintro W2 ⟨hC1,hkk⟩;have f1:=hC1.free;obtain⟨p0,p1,p2,p3,p4,p5,p6,p7,p8,p9,p10,p11,p12,p13,p14⟩:=hC1.c15
 go_wp2_with fail
 refine bp_gen (fun W=>Blk W (w.heap.size+1) [I 0,I 0,I 0,I 0,I 0,I 0,I 0,I 0,I 0,I 0,I 0,I 0,I 0,I 0,I 0]∧Keeps (· <w.heap.size) w W) ⟨?_,?_⟩ ?_
 ·repeat(first|with_reducible refine Blk.drew ?_|with_reducible refine BlkN.set15 ?_ _ _ _ _ _ _ _ _ _ _ _ _ _ _ _|with_reducible exact BlkN.of15 (by with_reducible assumption))
 ·exact kA
 clear hC1 hkk f1 p0 p1 p2 p3 p4 p5 p6 p7 p8 p9 p10 p11 p12 p13 p14;rintro W3 ⟨g1,g2⟩;obtain⟨p0,p1,p2,p3,p4,p5,p6,p7,p8,p9,p10,p11,p12,p13,p14⟩:=g1.c15;refine bodyPost_ret (v:= .tuple #[.agg #[I 0,I 0,I 0,I 0,I 0,I 0,I 0,I 0,I 0,I 0,I 0,I 0,I 0,I 0,I 0],I 1]) ?_ rfl ?_
 ·exact c105
 ·exact hR'.out _ _ ⟨rfl,g2⟩
end Go.Proofs.YtogdknnkhkjmcaaGreatDoor
