/- Layer 12 (write): contract of New. -/
import Derived.Test.YtogdknnkhkjmcaaGreatDoorWrN
namespace Go.Proofs.YtogdknnkhkjmcaaGreatDoor
open Go.RowKit
set_option linter.all false
theorem mem_len {w:World}{m c:Nat}{μ:MemS}(h:MemAt w m c μ):
  Calls Tryz.prog 42 #[.pointer (some ⟨m,0,none⟩)] w fun e w'=>e= .returned (I (μ.cells.length:Nat))∧w'=w:=by
 have c0:=h.obj.cell 0;simp only[List.getElem?_cons_zero]at c0;have hs:=h.small;clear h;refine calls_hide fun R' hR'=>?_
 go_enter Tryz.func42,Tryz.ntmps42
 exact c90
theorem BlkN.of15 {w:World}{b:Nat}{v0 v1 v2 v3 v4 v5 v6 v7 v8 v9 v10 v11 v12 v13 v14:Value}(h:Blk w b [v0,v1,v2,v3,v4,v5,v6,v7,v8,v9,v10,v11,v12,v13,v14]):BlkN w b 15:=⟨_,h,rfl⟩
theorem BlkN.set15 {w:World}{b:Nat}(h:BlkN w b 15)(v0 v1 v2 v3 v4 v5 v6 v7 v8 v9 v10 v11 v12 v13 v14:Value):
  Blk (((((((((((((((w.setCell ⟨b,0,none⟩ v0).setCell ⟨b,1,none⟩ v1).setCell ⟨b,2,none⟩ v2).setCell ⟨b,3,none⟩ v3).setCell ⟨b,4,none⟩ v4).setCell ⟨b,5,none⟩ v5).setCell ⟨b,6,none⟩ v6).setCell ⟨b,7,none⟩ v7).setCell ⟨b,8,none⟩ v8).setCell ⟨b,9,none⟩ v9).setCell ⟨b,10,none⟩ v10).setCell ⟨b,11,none⟩ v11).setCell ⟨b,12,none⟩ v12).setCell ⟨b,13,none⟩ v13).setCell ⟨b,14,none⟩ v14) b [v0,v1,v2,v3,v4,v5,v6,v7,v8,v9,v10,v11,v12,v13,v14]:=by
 obtain⟨l,h1,h2⟩:=h
 match l,h2 with
 | [x0,x1,x2,x3,x4,x5,x6,x7,x8,x9,x10,x11,x12,x13,x14],_=>exact(((((((((((((((h1.set 0 v0).set 1 v1).set 2 v2).set 3 v3).set 4 v4).set 5 v5).set 6 v6).set 7 v7).set 8 v8).set 9 v9).set 10 v10).set 11 v11).set 12 v12).set 13 v13).set 14 v14)
set_option maxRecDepth 100000 in
set_option maxHeartbeats 1000000 in
theorem lay_small (c:ConfM)(h:c.ok)(ht:c.terms<128)(hall:c.all≤65536)(w:World):
  Calls Tryz.prog 28 #[.agg c.list.toArray] w fun e w'=>e= .returned (.tuple #[c.plan.val,I 0])∧Keeps (· <w.heap.size) w w':=by
 have zz153:=@c722;exact c721
set_option maxRecDepth 100000 in
set_option maxHeartbeats 2000000 in
theorem sizes_bad0 (c:ConfM)(d0:1≤c.docs)(d1:c.docs≤64)(t0:64≤c.terms)(t1:c.terms≤256)(k0:0≤c.book)(k1:c.book≤65536)(r0:0≤c.room)(r1:c.room≤65536)(hs:True)(hbad:c.s0<0∨c.s0>512)(w:World):
  Calls Tryz.prog 40 #[.agg c.list.toArray] w fun e w'=>∃u:V6,e= .returned (.tuple #[u.val,.bool false])∧Keeps (· <w.heap.size) w w':=by
 obtain⟨docs,terms,s0,s1,s2,s3,book,room,kk,bb⟩:=c;simp only at d0 d1 t0 t1 k0 k1 r0 r1 hs hbad;have zz40:=@c273;exact c271
set_option maxRecDepth 100000 in
set_option maxHeartbeats 2000000 in
theorem sizes_bad1 (c:ConfM)(d0:1≤c.docs)(d1:c.docs≤64)(t0:64≤c.terms)(t1:c.terms≤256)(k0:0≤c.book)(k1:c.book≤65536)(r0:0≤c.room)(r1:c.room≤65536)(hs:(0≤c.s0∧c.s0≤512))(hbad:c.s1<0∨c.s1>512)(w:World):
  Calls Tryz.prog 40 #[.agg c.list.toArray] w fun e w'=>∃u:V6,e= .returned (.tuple #[u.val,.bool false])∧Keeps (· <w.heap.size) w w':=by
 obtain⟨docs,terms,s0,s1,s2,s3,book,room,kk,bb⟩:=c;simp only at d0 d1 t0 t1 k0 k1 r0 r1 hs hbad;obtain⟨ha0,hb0⟩:=hs;have zz40:=@c274;exact c271
set_option maxRecDepth 100000 in
set_option maxHeartbeats 2000000 in
theorem sizes_bad2 (c:ConfM)(d0:1≤c.docs)(d1:c.docs≤64)(t0:64≤c.terms)(t1:c.terms≤256)(k0:0≤c.book)(k1:c.book≤65536)(r0:0≤c.room)(r1:c.room≤65536)(hs:(0≤c.s0∧c.s0≤512)∧(0≤c.s1∧c.s1≤512))(hbad:c.s2<0∨c.s2>512)(w:World):
  Calls Tryz.prog 40 #[.agg c.list.toArray] w fun e w'=>∃u:V6,e= .returned (.tuple #[u.val,.bool false])∧Keeps (· <w.heap.size) w w':=by
 obtain⟨docs,terms,s0,s1,s2,s3,book,room,kk,bb⟩:=c;simp only at d0 d1 t0 t1 k0 k1 r0 r1 hs hbad;obtain⟨⟨ha0,hb0⟩,⟨ha1,hb1⟩⟩:=hs;have zz40:=@c275;exact c271
set_option maxRecDepth 100000 in
set_option maxHeartbeats 2000000 in
theorem sizes_bad3 (c:ConfM)(d0:1≤c.docs)(d1:c.docs≤64)(t0:64≤c.terms)(t1:c.terms≤256)(k0:0≤c.book)(k1:c.book≤65536)(r0:0≤c.room)(r1:c.room≤65536)(hs:(0≤c.s0∧c.s0≤512)∧(0≤c.s1∧c.s1≤512)∧(0≤c.s2∧c.s2≤512))(hbad:c.s3<0∨c.s3>512)(w:World):
  Calls Tryz.prog 40 #[.agg c.list.toArray] w fun e w'=>∃u:V6,e= .returned (.tuple #[u.val,.bool false])∧Keeps (· <w.heap.size) w w':=by
 obtain⟨docs,terms,s0,s1,s2,s3,book,room,kk,bb⟩:=c;simp only at d0 d1 t0 t1 k0 k1 r0 r1 hs hbad;obtain⟨⟨ha0,hb0⟩,⟨ha1,hb1⟩,⟨ha2,hb2⟩⟩:=hs;have zz40:=@c276;exact c271
set_option maxRecDepth 100000 in
set_option maxHeartbeats 4000000 in
theorem sizes_out (c:ConfM)(h:c.docs<1∨c.docs>64∨c.terms<64∨c.terms>256∨c.book<0∨c.book>65536∨c.room<0∨c.room>65536)(w:World):
  Calls Tryz.prog 40 #[.agg c.list.toArray] w fun e w'=>∃u:V6,e= .returned (.tuple #[u.val,.bool false])∧Keeps (· <w.heap.size) w w':=by
 obtain⟨docs,terms,s0,s1,s2,s3,book,room,kk,bb⟩:=c;simp only at h;refine calls_hide fun R' hR'=>?_;unfold ConfM.list
 by_cases q0:docs<1
 ·have g0:decide (docs<1)=true:=decide_eq_true q0;exact c5
 ·have g0:decide (docs<1)=false:=decide_eq_false q0
  by_cases q1:docs>64
  ·have g1:decide (docs>64)=true:=decide_eq_true q1;exact c5
  ·have g1:decide (docs>64)=false:=decide_eq_false q1
   by_cases q2:terms<64
   ·have g2:decide (terms<64)=true:=decide_eq_true q2;exact c5
   ·have g2:decide (terms<64)=false:=decide_eq_false q2
    by_cases q3:terms>256
    ·have g3:decide (terms>256)=true:=decide_eq_true q3;exact c5
    ·have g3:decide (terms>256)=false:=decide_eq_false q3
     by_cases q4:book<0
     ·have g4:decide (book<0)=true:=decide_eq_true q4;exact c5
     ·have g4:decide (book<0)=false:=decide_eq_false q4
      by_cases q5:book>65536
      ·have g5:decide (book>65536)=true:=decide_eq_true q5;exact c5
      ·have g5:decide (book>65536)=false:=decide_eq_false q5
       by_cases q6:room<0
       ·have g6:decide (room<0)=true:=decide_eq_true q6;exact c5
       ·have g6:decide (room<0)=false:=decide_eq_false q6
        by_cases q7:room>65536
        ·have g7:decide (room>65536)=true:=decide_eq_true q7;exact c5
        ·have g7:decide (room>65536)=false:=decide_eq_false q7
         omega
set_option maxRecDepth 100000 in
set_option maxHeartbeats 1000000 in
theorem lay_mid (c:ConfM)(h:c.ok)(ht:128≤c.terms)(ht2:c.terms<256)(hall:c.all≤65536)(w:World):
  Calls Tryz.prog 28 #[.agg c.list.toArray] w fun e w'=>e= .returned (.tuple #[c.plan.val,I 0])∧Keeps (· <w.heap.size) w w':=by
 have zz11:=@c183;exact c182
set_option maxRecDepth 100000 in
set_option maxHeartbeats 1000000 in
theorem lay_big (c:ConfM)(h:c.ok)(ht:256≤c.terms)(ht2:128≤c.terms)(hall:c.all≤65536)(w:World):
  Calls Tryz.prog 28 #[.agg c.list.toArray] w fun e w'=>e= .returned (.tuple #[c.plan.val,I 0])∧Keeps (· <w.heap.size) w w':=by
 have zz11:=@c184;exact c182
def PlanM.zero:PlanM:=⟨⟨0,0,0,0,0,0⟩,⟨0,0,0,0,0,0⟩,0,0,0⟩
theorem lay_yes (c:ConfM)(h:c.ok)(hall:c.all≤65536)(w:World):
  Calls Tryz.prog 28 #[.agg c.list.toArray] w fun e w'=>e= .returned (.tuple #[c.plan.val,I 0])∧Keeps (· <w.heap.size) w w':=by
 by_cases h1:c.terms<128
 ·exact lay_small c h h1 hall w
 ·by_cases h2:c.terms<256
  ·exact lay_mid c h (by omega) h2 hall w
  ·exact lay_big c h (by omega) (by omega) hall w
theorem sizes_no (c:ConfM)(h:¬(c.ok∧c.all≤65536))(w:World):
  Calls Tryz.prog 40 #[.agg c.list.toArray] w fun e w'=>∃u:V6,e= .returned (.tuple #[u.val,.bool false])∧Keeps (· <w.heap.size) w w':=by
 by_cases g:c.docs<1∨c.docs>64∨c.terms<64∨c.terms>256∨c.book<0∨c.book>65536∨c.room<0∨c.room>65536
 ·exact sizes_out c g w
 ·have d0:1≤c.docs:=by omega
  have d1:c.docs≤64:=by omega
  have t0:64≤c.terms:=by omega
  have t1:c.terms≤256:=by omega
  have k0:0≤c.book:=by omega
  have k1:c.book≤65536:=by omega
  have r0:0≤c.room:=by omega
  have r1:c.room≤65536:=by omega
  by_cases g0:c.s0<0∨c.s0>512
  ·exact sizes_bad0 c d0 d1 t0 t1 k0 k1 r0 r1 trivial g0 w
  ·by_cases g1:c.s1<0∨c.s1>512
   ·exact sizes_bad1 c d0 d1 t0 t1 k0 k1 r0 r1 (by omega) g1 w
   ·by_cases g2:c.s2<0∨c.s2>512
    ·exact sizes_bad2 c d0 d1 t0 t1 k0 k1 r0 r1 (by omega) g2 w
    ·by_cases g3:c.s3<0∨c.s3>512
     ·exact sizes_bad3 c d0 d1 t0 t1 k0 k1 r0 r1 (by omega) g3 w
     ·have hok:c.ok:=⟨d0,d1,t0,t1,by omega,by omega,by omega,by omega,by omega,by omega,by omega,by omega,k0,k1,r0,r1⟩
      have hall:¬c.all≤65536:=fun e=>h ⟨hok,e⟩;refine(sizes_ok c hok w).mono ?_;rintro e w' ⟨rfl,hk⟩;rw[decide_eq_false hall];exact⟨⟨szC c 0,szC c 1,szC c 2,szC c 3,szC c 4,szC c 5⟩,rfl,hk⟩
set_option maxRecDepth 100000 in
set_option maxHeartbeats 2000000 in
theorem lay_no (c:ConfM)(h:¬(c.ok∧c.all≤65536))(w:World):
  Calls Tryz.prog 28 #[.agg c.list.toArray] w fun e w'=>e= .returned (.tuple #[PlanM.zero.val,I 1])∧Keeps (· <w.heap.size) w w':=by
 have HS:=hid (sizes_no c h);obtain⟨docs,terms,s0,s1,s2,s3,book,room,kk,bb⟩:=c;unfold ConfM.list at*;clear h;refine calls_hide fun R' hR'=>?_
 go_enter Tryz.func28,Tryz.ntmps28
 go_wp2_with fail
 refine calls_gen (fun W=>Blk W (w.heap.size+1) PlanM.zero.flat∧Keeps (· <w.heap.size) w W) ⟨?_,?_⟩ ?_
 ·unfold PlanM.flat PlanM.zero;exact bA
 ·exact kA
 rintro W ⟨hB1,hk⟩;refine(HS.out W).mono ?_;rintro e w1 ⟨u,rfl,hk1⟩;have hC1:=hB1.keep hk1 hB1.lt;have hkk:=hk.trans (hk1.mono fun b hb=>by have:=hB1.lt;omega)
 unfold V6.val;unfold PlanM.flat PlanM.zero at hC1;clear hB1 hk hk1;have hlb:w.heap.size+1<w1.heap.size:=hC1.lt
 go_upto_if 15 with fail
 refine wp_gen (fun W=>Blk W (w.heap.size+1) [I 0,I 0,I 0,I 0,I 0,I 0,I 0,I 0,I 0,I 0,I 0,I 0,I 0,I 0,I 0]∧Keeps (· <w.heap.size) w W) ⟨?_,?_⟩ ?_
 ·exact bA
 ·exact kA
 clear hC1 hkk;rintro W2 ⟨hC1,hkk⟩;have f1:=hC1.free;obtain⟨p0,p1,p2,p3,p4,p5,p6,p7,p8,p9,p10,p11,p12,p13,p14⟩:=hC1.c15
 go_wp2_with fail
 refine bp_gen (fun W=>Blk W (w.heap.size+1) [I 0,I 0,I 0,I 0,I 0,I 0,I 0,I 0,I 0,I 0,I 0,I 0,I 0,I 0,I 0]∧Keeps (· <w.heap.size) w W) ⟨?_,?_⟩ ?_
 ·repeat(first|with_reducible refine Blk.drew ?_|with_reducible refine BlkN.set15 ?_ _ _ _ _ _ _ _ _ _ _ _ _ _ _ _|with_reducible exact BlkN.of15 (by with_reducible assumption))
 ·exact kA
 clear hC1 hkk f1 p0 p1 p2 p3 p4 p5 p6 p7 p8 p9 p10 p11 p12 p13 p14;rintro W3 ⟨g1,g2⟩;obtain⟨p0,p1,p2,p3,p4,p5,p6,p7,p8,p9,p10,p11,p12,p13,p14⟩:=g1.c15;refine bodyPost_ret (v:= .tuple #[.agg #[I 0,I 0,I 0,I 0,I 0,I 0,I 0,I 0,I 0,I 0,I 0,I 0,I 0,I 0,I 0],I 1]) ?_ rfl ?_
 ·exact c105
 ·exact hR'.out _ _ ⟨rfl,g2⟩
theorem Blk.set15 {w:World}{b:Nat}{l:List Value}(h:Blk w b l)(v0 v1 v2 v3 v4 v5 v6 v7 v8 v9 v10 v11 v12 v13 v14:Value)(hl:l.length=15):
  Blk (((((((((((((((w.setCell ⟨b,0,none⟩ v0).setCell ⟨b,1,none⟩ v1).setCell ⟨b,2,none⟩ v2).setCell ⟨b,3,none⟩ v3).setCell ⟨b,4,none⟩ v4).setCell ⟨b,5,none⟩ v5).setCell ⟨b,6,none⟩ v6).setCell ⟨b,7,none⟩ v7).setCell ⟨b,8,none⟩ v8).setCell ⟨b,9,none⟩ v9).setCell ⟨b,10,none⟩ v10).setCell ⟨b,11,none⟩ v11).setCell ⟨b,12,none⟩ v12).setCell ⟨b,13,none⟩ v13).setCell ⟨b,14,none⟩ v14) b [v0,v1,v2,v3,v4,v5,v6,v7,v8,v9,v10,v11,v12,v13,v14]:=by
 have:=((((((((((((((h.set 0 v0).set 1 v1).set 2 v2).set 3 v3).set 4 v4).set 5 v5).set 6 v6).set 7 v7).set 8 v8).set 9 v9).set 10 v10).set 11 v11).set 12 v12).set 13 v13).set 14 v14
 match l,hl with
 | [a0,a1,a2,a3,a4,a5,a6,a7,a8,a9,a10,a11,a12,a13,a14],_=>exact this
theorem Keeps.set15 {K:Nat→Prop}{w0 w:World}{b:Nat}(h:Keeps K w0 w)(hb:¬K b)(v0 v1 v2 v3 v4 v5 v6 v7 v8 v9 v10 v11 v12 v13 v14:Value):
  Keeps K w0 (((((((((((((((w.setCell ⟨b,0,none⟩ v0).setCell ⟨b,1,none⟩ v1).setCell ⟨b,2,none⟩ v2).setCell ⟨b,3,none⟩ v3).setCell ⟨b,4,none⟩ v4).setCell ⟨b,5,none⟩ v5).setCell ⟨b,6,none⟩ v6).setCell ⟨b,7,none⟩ v7).setCell ⟨b,8,none⟩ v8).setCell ⟨b,9,none⟩ v9).setCell ⟨b,10,none⟩ v10).setCell ⟨b,11,none⟩ v11).setCell ⟨b,12,none⟩ v12).setCell ⟨b,13,none⟩ v13).setCell ⟨b,14,none⟩ v14):=
 ((((((((((((((h.setCell hb v0).setCell hb v1).setCell hb v2).setCell hb v3).setCell hb v4).setCell hb v5).setCell hb v6).setCell hb v7).setCell hb v8).setCell hb v9).setCell hb v10).setCell hb v11).setCell hb v12).setCell hb v13).setCell hb v14
set_option maxHeartbeats 400000 in
theorem between_no (n lo hi:Int)(w:World)(h:¬(lo≤n∧n≤hi)):
  Calls Tryz.prog 68 #[I n,I lo,I hi] w fun e w'=>e= .returned (.bool false)∧w'=w:=by
 refine calls_hide fun R' hR'=>?_
 by_cases h1:lo≤n
 ·have h2:¬n≤hi:=fun e=>h ⟨h1,e⟩;clear h
  go_enter Tryz.func68,Tryz.ntmps68
  exact c90
 ·clear h
  go_enter Tryz.func68,Tryz.ntmps68
  exact c90
set_option maxRecDepth 100000 in
set_option maxHeartbeats 4000000 in
theorem play_out (c:ConfM)(h:c.docs<1∨c.docs>64∨c.terms<64∨c.terms>256∨c.book<0∨c.book>65536∨c.room<0∨c.room>65536)(w:World):
  Calls Tryz.prog 41 #[.agg c.list.toArray] w fun e w'=>e= .returned (.tuple #[PlanM.zero.val,I 1])∧Keeps (· <w.heap.size) w w':=by
 obtain⟨docs,terms,s0,s1,s2,s3,book,room,kk,bb⟩:=c;simp only at h;refine calls_hide fun R' hR'=>?_;unfold ConfM.list
 go_enter Tryz.func41,Tryz.ntmps41
 by_cases q0:1≤docs∧docs≤64
 rotate_left
 ·have Hd:=hid (fun W=>between_no docs 1 64 W (by omega))
  clear h q0
  go_wp2_with (go_at_call 68;first|(with_reducible refine(Hd.out _).mono ?_;rintro e w9 ⟨rfl,rfl⟩))
  exact c20
 by_cases q1:64≤terms∧terms≤256
 rotate_left
 ·have Hd:=hid (fun W=>between_yes docs 1 64 W (by omega))
  have Ht:=hid (fun W=>between_no terms 64 256 W (by omega))
  clear h q0 q1
  go_wp2_with (go_at_call 68;first|(with_reducible refine(Hd.out _).mono ?_;rintro e w9 ⟨rfl,rfl⟩)|(with_reducible refine(Ht.out _).mono ?_;rintro e w9 ⟨rfl,rfl⟩))
  exact c20
 by_cases q2:0≤book∧book≤65536
 rotate_left
 ·have Hd:=hid (fun W=>between_yes docs 1 64 W (by omega))
  have Ht:=hid (fun W=>between_yes terms 64 256 W (by omega))
  have Hk:=hid (fun W=>between_no book 0 65536 W (by omega))
  clear h q0 q1 q2
  go_wp2_with (go_at_call 68;first|(with_reducible refine(Hd.out _).mono ?_;rintro e w9 ⟨rfl,rfl⟩)|(with_reducible refine(Ht.out _).mono ?_;rintro e w9 ⟨rfl,rfl⟩)|(with_reducible refine(Hk.out _).mono ?_;rintro e w9 ⟨rfl,rfl⟩))
  exact c20
 have zz125:=@c630;exact c629
def layK (s0 s1 s2 s3 book room:Int):Nat→List Value
 |0=>[.int .i64 0,.int .i64 0,.int .i64 0,.int .i64 0,.int .i64 0,.int .i64 0,.int .i64 0,.int .i64 0,.int .i64 0,.int .i64 0,.int .i64 0,.int .i64 0,.int .i64 (3),.int .i64 1,.int .i64 0]
 |1=>[.int .i64 (3),.int .i64 0,.int .i64 0,.int .i64 0,.int .i64 0,.int .i64 0,.int .i64 (s0*4),.int .i64 0,.int .i64 0,.int .i64 0,.int .i64 0,.int .i64 0,.int .i64 (3+s0*4),.int .i64 1,.int .i64 0]
 |2=>[.int .i64 (3),.int .i64 (3+s0*4),.int .i64 0,.int .i64 0,.int .i64 0,.int .i64 0,.int .i64 (s0*4),.int .i64 (s1*16),.int .i64 0,.int .i64 0,.int .i64 0,.int .i64 0,.int .i64 (3+s0*4+s1*16),.int .i64 1,.int .i64 0]
 |3=>[.int .i64 (3),.int .i64 (3+s0*4),.int .i64 (3+s0*4+s1*16),.int .i64 0,.int .i64 0,.int .i64 0,.int .i64 (s0*4),.int .i64 (s1*16),.int .i64 (s2*64),.int .i64 0,.int .i64 0,.int .i64 0,.int .i64 (3+s0*4+s1*16+s2*64),.int .i64 1,.int .i64 0]
 |4=>[.int .i64 (3),.int .i64 (3+s0*4),.int .i64 (3+s0*4+s1*16),.int .i64 (3+s0*4+s1*16+s2*64),.int .i64 0,.int .i64 0,.int .i64 (s0*4),.int .i64 (s1*16),.int .i64 (s2*64),.int .i64 (s3*256),.int .i64 0,.int .i64 0,.int .i64 (3+s0*4+s1*16+s2*64+s3*256),.int .i64 1,.int .i64 0]
 |5=>[.int .i64 (3),.int .i64 (3+s0*4),.int .i64 (3+s0*4+s1*16),.int .i64 (3+s0*4+s1*16+s2*64),.int .i64 (3+s0*4+s1*16+s2*64+s3*256),.int .i64 0,.int .i64 (s0*4),.int .i64 (s1*16),.int .i64 (s2*64),.int .i64 (s3*256),.int .i64 (book),.int .i64 0,.int .i64 (3+s0*4+s1*16+s2*64+s3*256+book),.int .i64 1,.int .i64 0]
 |_=>[.int .i64 (3),.int .i64 (3+s0*4),.int .i64 (3+s0*4+s1*16),.int .i64 (3+s0*4+s1*16+s2*64),.int .i64 (3+s0*4+s1*16+s2*64+s3*256),.int .i64 (3+s0*4+s1*16+s2*64+s3*256+book),.int .i64 (s0*4),.int .i64 (s1*16),.int .i64 (s2*64),.int .i64 (s3*256),.int .i64 (book),.int .i64 (room),.int .i64 (3+s0*4+s1*16+s2*64+s3*256+book+room),.int .i64 1,.int .i64 0]
def slotOf (b:Nat)(w:World):Nat:=match w.cell? ⟨b,13,none⟩with
 |some (.int _ x)=>x.toNat
 |_=>0
theorem nb2 (B:Nat):¬(fun b=>b<B) (B+1+1):=fun h=>by have h:B+1+1<B:=h;omega
theorem nb1 (B:Nat):¬(fun b=>b<B) (B+1):=fun h=>by have h:B+1<B:=h;omega
def SlotsAt (terms v:Int):Prop:=(v=1∨v=2∨v=4∨v=8∨v=16∨v=32∨v=64∨v=128)∨(v=256∧128≤terms)∨(v=512∧256≤terms)
theorem slots_next {terms v:Int}(h:SlotsAt terms v)(hv:v≤terms)(ht:terms≤256):SlotsAt terms (v*2):=by
 unfold SlotsAt at h
 rcases h with(rfl|rfl|rfl|rfl|rfl|rfl|rfl|rfl)|⟨rfl,h⟩|⟨rfl,h⟩
 ·exact Or.inl (by decide)
 ·exact Or.inl (by decide)
 ·exact Or.inl (by decide)
 ·exact Or.inl (by decide)
 ·exact Or.inl (by decide)
 ·exact Or.inl (by decide)
 ·exact Or.inl (by decide)
 ·exact Or.inr (Or.inl ⟨rfl,hv⟩)
 ·exact Or.inr (Or.inr ⟨rfl,hv⟩)
 ·omega
theorem slots_end {terms v:Int}(h:SlotsAt terms v)(hl:terms<v)(h0:64≤terms):(if 256≤terms then 512 else if 128≤terms then 256 else 128:Int)=v:=by
 unfold SlotsAt at h
 rcases h with(rfl|rfl|rfl|rfl|rfl|rfl|rfl|rfl)|⟨rfl,h⟩|⟨rfl,h⟩
 ·omega
 ·omega
 ·omega
 ·omega
 ·omega
 ·omega
 ·omega
 ·rw[if_neg (by omega),if_neg (by omega)]
 ·rw[if_neg (by omega),if_pos h]
 ·rw[if_pos h]
theorem slots_bd {terms v:Int}(h:SlotsAt terms v):1≤v∧v≤512:=by
 unfold SlotsAt at h
 rcases h with(rfl|rfl|rfl|rfl|rfl|rfl|rfl|rfl)|⟨rfl,h⟩|⟨rfl,h⟩<;>decide
set_option maxRecDepth 100000 in
set_option maxHeartbeats 8000000 in
theorem play_bad0 (docs terms s0 s1 s2 s3 book room:Int)(kk bb:Value)(d0:1≤docs)(d1:docs≤64)(t0:64≤terms)(t1:terms≤256)(k0:0≤book)(k1:book≤65536)(r0:0≤room)(r1:room≤65536)(q:¬(0≤s0∧s0≤512))(w:World)(hT:PTab w):
  Calls Tryz.prog 41 #[.agg #[I docs,I terms,I s0,I s1,I s2,I s3,I book,I room,kk,bb]] w fun e w'=>e= .returned (.tuple #[PlanM.zero.val,I 1])∧Keeps (· <w.heap.size) w w':=by
 have zz125:=@c631;exact c629
set_option maxRecDepth 100000 in
set_option maxHeartbeats 8000000 in
theorem play_bad1 (docs terms s0 s1 s2 s3 book room:Int)(kk bb:Value)(d0:1≤docs)(d1:docs≤64)(t0:64≤terms)(t1:terms≤256)(k0:0≤book)(k1:book≤65536)(r0:0≤room)(r1:room≤65536)(o0:0≤s0∧s0≤512)(q:¬(0≤s1∧s1≤512))(w:World)(hT:PTab w):
  Calls Tryz.prog 41 #[.agg #[I docs,I terms,I s0,I s1,I s2,I s3,I book,I room,kk,bb]] w fun e w'=>e= .returned (.tuple #[PlanM.zero.val,I 1])∧Keeps (· <w.heap.size) w w':=by
 have zz125:=@c632;exact c629
set_option maxRecDepth 100000 in
set_option maxHeartbeats 8000000 in
theorem play_bad2 (docs terms s0 s1 s2 s3 book room:Int)(kk bb:Value)(d0:1≤docs)(d1:docs≤64)(t0:64≤terms)(t1:terms≤256)(k0:0≤book)(k1:book≤65536)(r0:0≤room)(r1:room≤65536)(o0:0≤s0∧s0≤512)(o1:0≤s1∧s1≤512)(q:¬(0≤s2∧s2≤512))(w:World)(hT:PTab w):
  Calls Tryz.prog 41 #[.agg #[I docs,I terms,I s0,I s1,I s2,I s3,I book,I room,kk,bb]] w fun e w'=>e= .returned (.tuple #[PlanM.zero.val,I 1])∧Keeps (· <w.heap.size) w w':=by
 have zz119:=@c594;exact c593
set_option maxRecDepth 100000 in
set_option maxHeartbeats 8000000 in
theorem play_bad3 (docs terms s0 s1 s2 s3 book room:Int)(kk bb:Value)(d0:1≤docs)(d1:docs≤64)(t0:64≤terms)(t1:terms≤256)(k0:0≤book)(k1:book≤65536)(r0:0≤room)(r1:room≤65536)(o0:0≤s0∧s0≤512)(o1:0≤s1∧s1≤512)(o2:0≤s2∧s2≤512)(q:¬(0≤s3∧s3≤512))(w:World)(hT:PTab w):
  Calls Tryz.prog 41 #[.agg #[I docs,I terms,I s0,I s1,I s2,I s3,I book,I room,kk,bb]] w fun e w'=>e= .returned (.tuple #[PlanM.zero.val,I 1])∧Keeps (· <w.heap.size) w w':=by
 have zz119:=@c595;exact c593
end Go.Proofs.YtogdknnkhkjmcaaGreatDoor
