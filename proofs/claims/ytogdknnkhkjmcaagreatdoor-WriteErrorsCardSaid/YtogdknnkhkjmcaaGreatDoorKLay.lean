/- Lemmas on the programs that the statement reaches. -/
import Derived.Test.YtogdknnkhkjmcaaGreatDoorKStepF
import Derived.Test.YtogdknnkhkjmcaaGreatDoorKRegHead
namespace Go.Proofs.YtogdknnkhkjmcaaGreatDoor
open Go.RowKit
set_option linter.all false
structure V6 where
 a0:Int
 a1:Int
 a2:Int
 a3:Int
 a4:Int
 a5:Int
def V6.val (v:V6):Value:= .agg #[.int .i64 v.a0,.int .i64 v.a1,.int .i64 v.a2,.int .i64 v.a3,.int .i64 v.a4,.int .i64 v.a5]
structure PlanM where
 base:V6
 size:V6
 cells:Int
 slots:Int
 live:Int
def PlanM.val (p:PlanM):Value:= .agg #[.int .i64 p.base.a0,.int .i64 p.base.a1,.int .i64 p.base.a2,.int .i64 p.base.a3,.int .i64 p.base.a4,.int .i64 p.base.a5,
 .int .i64 p.size.a0,.int .i64 p.size.a1,.int .i64 p.size.a2,.int .i64 p.size.a3,.int .i64 p.size.a4,.int .i64 p.size.a5,.int .i64 p.cells,.int .i64 p.slots,.int .i64 p.live]
def PlanM.flat (p:PlanM):List Value:=[.int .i64 p.base.a0,.int .i64 p.base.a1,.int .i64 p.base.a2,.int .i64 p.base.a3,.int .i64 p.base.a4,.int .i64 p.base.a5,
 .int .i64 p.size.a0,.int .i64 p.size.a1,.int .i64 p.size.a2,.int .i64 p.size.a3,.int .i64 p.size.a4,.int .i64 p.size.a5,.int .i64 p.cells,.int .i64 p.slots,.int .i64 p.live]
set_option maxHeartbeats 400000 in
theorem between_yes (n lo hi:Int)(w:World)(h:lo≤n∧n≤hi):
  Z 68 #[I n,I lo,I hi] w fun e w'=>e= .returned (.bool true)∧w'=w:=by
 obtain⟨h1,h2⟩:=h;refine calls_hide fun R' hR'=>?_
 go_enter Tryz.func68,Tryz.ntmps68
 exact c84
set_option maxRecDepth 100000 in
set_option maxHeartbeats 1000000 in
theorem take_book (p:PlanM)(u:V6)(n:Int)(w:World)(h1:1≤n)(h0:0≤u.a4)(h2:u.a4+n≤p.size.a4)(h3:p.size.a4≤65536)(hb:0≤p.base.a4∧p.base.a4≤65536):
  Z 43 #[p.val,u.val,I 4,I n] w fun e w'=>
   e= .returned (.tuple #[I (p.base.a4+u.a4),V6.val { u with a4:=u.a4+n },I 0])∧Keeps (· <w.heap.size) w w':=by
 have zz152:=PLift.up @c723;exact c722
set_option maxRecDepth 100000 in
set_option maxHeartbeats 1000000 in
theorem take_full (p:PlanM)(u:V6)(n:Int)(w:World)(h1:1≤n)(hn:n≤1099511627776)(h0:0≤u.a4)(hu:u.a4≤p.size.a4)(h2:p.size.a4<u.a4+n)(h3:p.size.a4≤65536):
  Z 43 #[p.val,u.val,I 4,I n] w fun e w'=>
   e= .returned (.tuple #[I 0,V6.val ⟨0,0,0,0,0,0⟩,I 3])∧Keeps (· <w.heap.size) w w':=by
 have zz45:=PLift.up @c288;exact c287
structure ConfM where
 docs:Int
 terms:Int
 s0:Int
 s1:Int
 s2:Int
 s3:Int
 book:Int
 room:Int
 k:Value
 b:Value
def ConfM.list (c:ConfM):List Value:=[.int .i64 c.docs,.int .i64 c.terms,.int .i64 c.s0,.int .i64 c.s1,.int .i64 c.s2,.int .i64 c.s3,.int .i64 c.book,.int .i64 c.room,c.k,c.b]
structure ConfM.ok (c:ConfM):Prop where
 d0:1≤c.docs
 d1:c.docs≤64
 t0:64≤c.terms
 t1:c.terms≤256
 a0:0≤c.s0
 a1:c.s0≤512
 b0:0≤c.s1
 b1:c.s1≤512
 c0:0≤c.s2
 c1:c.s2≤512
 e0:0≤c.s3
 e1:c.s3≤512
 k0:0≤c.book
 k1:c.book≤65536
 r0:0≤c.room
 r1:c.room≤65536
def ConfM.all (c:ConfM):Int:=3+4*c.s0+16*c.s1+64*c.s2+256*c.s3+c.book+c.room
def ConfM.plan (c:ConfM):PlanM:=
 ⟨⟨3,3+4*c.s0,3+4*c.s0+16*c.s1,3+4*c.s0+16*c.s1+64*c.s2,3+4*c.s0+16*c.s1+64*c.s2+256*c.s3,3+4*c.s0+16*c.s1+64*c.s2+256*c.s3+c.book⟩,
  ⟨4*c.s0,16*c.s1,64*c.s2,256*c.s3,c.book,c.room⟩,c.all,if 256≤c.terms then 512 else if 128≤c.terms then 256 else 128,1+4*c.docs+(if 256≤c.terms then 512 else if 128≤c.terms then 256 else 128)⟩
set_option maxHeartbeats 400000 in
theorem slab_ref (k:Nat)(hk:k≤3)(w:World):
  Z 67 #[I k] w fun e w'=>e= .returned (I ((4^(k+1):Nat):Int))∧w'=w:=by
 refine calls_hide fun R' hR'=>?_
 go_enter Tryz.func67,Tryz.ntmps67
 have hk3:(k:Int)≤3:=by omega
 go_wp2_with fail
 go_loop [3,4] (fun n i=>∃j:Nat,j≤k∧i=I j∧n=I ((4^(j+1):Nat):Int)) (fun _ i=>k-(intOf i).toNat)
 case atStart=>exact⟨0,Nat.zero_le _,rfl,rfl⟩
 case round=>
  obtain⟨j,hj,rfl,rfl⟩:=hrel;have hp:4^(j+1)≤4^4:=Nat.pow_le_pow_right (by decide) (by omega)
  have hp2:(4^(j+1+1):Nat)=4^(j+1)*4:=Nat.pow_succ ..;generalize hq:4^(j+1)=q at*;have Hq:=hid hq;have Hp2:=hid hp2;clear hq hp2
  by_cases hlt:j<k
  ·go_wp2_with fail
   go_round
   case rel=>exact⟨j+1,by omega,by go_num,congrArg (Value.int .i64) (by rw[Hp2.out];omega)⟩
   case measure=>simp[intOf];omega
  ·have hjk:j=k:=by omega
   subst hjk
   go_wp2_with fail
   exact hR'.out _ _ ⟨by rw[Hq.out],rfl⟩
theorem slab_at0 (w:World):Z 67 #[I 0] w fun e w'=>e= .returned (I 4)∧w'=w:=slab_ref 0 (by omega) w
theorem slab_at1 (w:World):Z 67 #[I 1] w fun e w'=>e= .returned (I 16)∧w'=w:=slab_ref 1 (by omega) w
theorem slab_at2 (w:World):Z 67 #[I 2] w fun e w'=>e= .returned (I 64)∧w'=w:=slab_ref 2 (by omega) w
theorem slab_at3 (w:World):Z 67 #[I 3] w fun e w'=>e= .returned (I 256)∧w'=w:=slab_ref 3 (by omega) w
def szC (c:ConfM):Nat→Int
 |0=>4*c.s0
 |1=>16*c.s1
 |2=>64*c.s2
 |3=>256*c.s3
 |4=>c.book
 |_=>c.room
def baseC (c:ConfM):Nat→Int
 |0=>3
 |k+1=>baseC c k+szC c k
def upto (k:Nat)(f:Nat→Int)(j:Nat):Int:=if j<k then f j else 0
def six (f:Nat→Int):List Value:=[.int .i64 (f 0),.int .i64 (f 1),.int .i64 (f 2),.int .i64 (f 3),.int .i64 (f 4),.int .i64 (f 5)]
set_option maxRecDepth 100000 in
set_option maxHeartbeats 2000000 in
theorem sizes_ok (c:ConfM)(h:c.ok)(w:World):
  Z 40 #[.agg c.list.toArray] w fun e w'=>e= .returned (.tuple #[.agg (six (szC c)).toArray,.bool (decide (c.all≤65536))])∧Keeps (· <w.heap.size) w w':=by
 obtain⟨d0,d1,t0,t1,a0,a1,b0,b1,c0,c1,e0,e1,k0,k1,r0,r1⟩:=h;have hall:baseC c 6=c.all:=by unfold ConfM.all;simp only[baseC,szC]
 have Hall:=hid hall;clear hall;obtain⟨docs,terms,s0,s1,s2,s3,book,room,kk,bb⟩:=c;simp only at d0 d1 t0 t1 a0 a1 b0 b1 c0 c1 e0 e1 k0 k1 r0 r1;refine calls_hide fun R' hR'=>?_;unfold ConfM.list
 go_enter Tryz.func40,Tryz.ntmps40
 go_wp2_with fail
 refine wp_gen (fun W=>Blk W w.heap.size [I docs,I terms,I s0,I s1,I s2,I s3,I book,I room,kk,bb]∧Blk W (w.heap.size+1) [I 0,I 0,I 0,I 0,I 0,I 0]∧
  Blk W (w.heap.size+1+1) [I 0,I 0,I 0,I 0,I 0,I 0]∧Keeps (· <w.heap.size) w W) ⟨?_,?_,?_,?_⟩ ?_
 ·exact bA
 ·exact bA
 ·exact nA
 ·exact kA
 rintro W ⟨hB0,hB1,hB2,hk⟩;generalize hb:w.heap.size=b at*;have Hb:=hid hb;clear hb
 go_loopw[5,6] (fun all kv wr=>∃k:Nat,k≤6∧kv=I k∧all=I (baseC ⟨docs,terms,s0,s1,s2,s3,book,room,kk,bb⟩ k)∧Blk wr b [I docs,I terms,I s0,I s1,I s2,I s3,I book,I room,kk,bb]∧
  Blk wr (b+1) [I 0,I 0,I 0,I 0,I 0,I 0]∧Blk wr (b+1+1) (six (upto k (szC ⟨docs,terms,s0,s1,s2,s3,book,room,kk,bb⟩)))∧Keeps (· <b) w wr) (fun _ kv _=>6-(intOf kv).toNat)
 case atStart=>exact⟨0,by omega,rfl,rfl,hB0,hB1,hB2,hk⟩
 case round=>
  obtain⟨k,hk6,rfl,rfl,hC0,hC1,hC2,hkr⟩:=hrel;clear hB0 hB1 hB2 hk;obtain⟨c0,c1,c2,c3,c4,c5,c6,c7,c8,c9⟩:=hC0.c10
  rcases(by omega:k=0∨k=1∨k=2∨k=3∨k=4∨k=5∨k=6)with rfl|rfl|rfl|rfl|rfl|rfl|rfl
  ·simp only[baseC,szC,six,upto,Nat.lt_irrefl,Nat.not_lt_zero,if_true,if_false,Nat.zero_lt_succ,Nat.reduceLT]at*;have zz57:=PLift.up @c330;exact c329
  ·simp only[baseC,szC,six,upto,Nat.lt_irrefl,Nat.not_lt_zero,if_true,if_false,Nat.zero_lt_succ,Nat.reduceLT]at*;have zz57:=PLift.up @c331;exact c329
  ·simp only[baseC,szC,six,upto,Nat.lt_irrefl,Nat.not_lt_zero,if_true,if_false,Nat.zero_lt_succ,Nat.reduceLT]at*;have zz57:=PLift.up @c332;exact c329
  ·simp only[baseC,szC,six,upto,Nat.lt_irrefl,Nat.not_lt_zero,if_true,if_false,Nat.zero_lt_succ,Nat.reduceLT]at*;have zz57:=PLift.up @c333;exact c329
  ·simp only[baseC,szC,six,upto,Nat.lt_irrefl,Nat.not_lt_zero,if_true,if_false,Nat.zero_lt_succ,Nat.reduceLT]at*;obtain⟨z0,z1,z2,z3,z4,z5⟩:=hC2.c6;have f2:=hC2.free
   go_wp2_with fail
   go_roundw
   case rel=>
    refine⟨5,by omega,rfl,congrArg (Value.int .i64) (by simp only[baseC,szC]<;>omega),?_,?_,?_,?_⟩
    ·exact bA
    ·exact bA
    ·have hx:=hC2.set 4 (I (book));exact c60
    ·exact kA
   case measure=>simp[intOf]
  ·simp only[baseC,szC,six,upto,Nat.lt_irrefl,Nat.not_lt_zero,if_true,if_false,Nat.zero_lt_succ,Nat.reduceLT]at*;obtain⟨z0,z1,z2,z3,z4,z5⟩:=hC2.c6;have f2:=hC2.free
   go_wp2_with fail
   go_roundw
   case rel=>
    refine⟨6,by omega,rfl,congrArg (Value.int .i64) (by simp only[baseC,szC]<;>omega),?_,?_,?_,?_⟩
    ·exact bA
    ·exact bA
    ·have hx:=hC2.set 5 (I (room));exact c60
    ·exact kA
   case measure=>simp[intOf]
  ·rw[Hall.out];generalize ConfM.all ⟨docs,terms,s0,s1,s2,s3,book,room,kk,bb⟩=al at*;simp only[six,upto,szC,if_true,Nat.reduceLT]at hC2;obtain⟨z0,z1,z2,z3,z4,z5⟩:=hC2.c6;obtain⟨d0,d1,d2,d3,d4,d5⟩:=hC1.c6;have f1:=hC1.free;clear c0 c1 c2 c3 c4 c5 c6 c7 c8 c9
   go_wp2_with fail
   refine bp_gen (fun W=>Blk W (b+1) [I (4*s0),I (16*s1),I (64*s2),I (256*s3),I book,I room]∧Keeps (· <b) w W) ⟨?_,?_⟩ ?_
   ·exact nA
   ·exact kA
   clear z0 z1 z2 z3 z4 z5 d0 d1 d2 d3 d4 d5 f1 hC0 hC1 hC2 hkr;rintro W2 ⟨g1,g2⟩;obtain⟨d0,d1,d2,d3,d4,d5⟩:=g1.c6;refine bodyPost_ret (v:= .tuple #[.agg #[I (4*s0),I (16*s1),I (64*s2),I (256*s3),I book,I room],.bool (decide (al≤65536))]) ?_ rfl ?_
   ·simp[results,Tryz.results40,go_sem,d0,d1,d2,d3,d4,d5]
   ·exact hR'.out _ _ ⟨rfl,g2⟩
end Go.Proofs.YtogdknnkhkjmcaaGreatDoor
