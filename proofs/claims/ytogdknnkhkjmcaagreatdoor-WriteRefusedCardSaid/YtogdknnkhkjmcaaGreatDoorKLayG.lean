/- Lemmas on the programs that the statement reaches. -/
import Derived.Test.YtogdknnkhkjmcaaGreatDoorKLayB
namespace Go.Proofs.YtogdknnkhkjmcaaGreatDoor
open Go.RowKit
set_option linter.all false
set_option maxRecDepth 100000 in
set_option maxHeartbeats 2000000 in
theorem sizes_bad0 (c:ConfM)(d0:1≤c.docs)(d1:c.docs≤64)(t0:64≤c.terms)(t1:c.terms≤256)(k0:0≤c.book)(k1:c.book≤65536)(r0:0≤c.room)(r1:c.room≤65536)(hs:True)(hbad:c.s0<0∨c.s0>512)(w:World):
  Z 40 #[.agg c.list.toArray] w fun e w'=>∃u:V6,e= .returned (.tuple #[u.val,.bool false])∧Keeps (· <w.heap.size) w w':=by
 obtain⟨docs,terms,s0,s1,s2,s3,book,room,kk,bb⟩:=c;simp only at d0 d1 t0 t1 k0 k1 r0 r1 hs hbad;have zz38:=PLift.up @c267;exact c265
set_option maxRecDepth 100000 in
set_option maxHeartbeats 2000000 in
theorem sizes_bad1 (c:ConfM)(d0:1≤c.docs)(d1:c.docs≤64)(t0:64≤c.terms)(t1:c.terms≤256)(k0:0≤c.book)(k1:c.book≤65536)(r0:0≤c.room)(r1:c.room≤65536)(hs:(0≤c.s0∧c.s0≤512))(hbad:c.s1<0∨c.s1>512)(w:World):
  Z 40 #[.agg c.list.toArray] w fun e w'=>∃u:V6,e= .returned (.tuple #[u.val,.bool false])∧Keeps (· <w.heap.size) w w':=by
 obtain⟨docs,terms,s0,s1,s2,s3,book,room,kk,bb⟩:=c;simp only at d0 d1 t0 t1 k0 k1 r0 r1 hs hbad;obtain⟨ha0,hb0⟩:=hs;have zz38:=PLift.up @c268;exact c265
set_option maxRecDepth 100000 in
set_option maxHeartbeats 2000000 in
theorem sizes_bad2 (c:ConfM)(d0:1≤c.docs)(d1:c.docs≤64)(t0:64≤c.terms)(t1:c.terms≤256)(k0:0≤c.book)(k1:c.book≤65536)(r0:0≤c.room)(r1:c.room≤65536)(hs:(0≤c.s0∧c.s0≤512)∧(0≤c.s1∧c.s1≤512))(hbad:c.s2<0∨c.s2>512)(w:World):
  Z 40 #[.agg c.list.toArray] w fun e w'=>∃u:V6,e= .returned (.tuple #[u.val,.bool false])∧Keeps (· <w.heap.size) w w':=by
 obtain⟨docs,terms,s0,s1,s2,s3,book,room,kk,bb⟩:=c;simp only at d0 d1 t0 t1 k0 k1 r0 r1 hs hbad;obtain⟨⟨ha0,hb0⟩,⟨ha1,hb1⟩⟩:=hs;have zz38:=PLift.up @c269;exact c265
set_option maxRecDepth 100000 in
set_option maxHeartbeats 2000000 in
theorem sizes_bad3 (c:ConfM)(d0:1≤c.docs)(d1:c.docs≤64)(t0:64≤c.terms)(t1:c.terms≤256)(k0:0≤c.book)(k1:c.book≤65536)(r0:0≤c.room)(r1:c.room≤65536)(hs:(0≤c.s0∧c.s0≤512)∧(0≤c.s1∧c.s1≤512)∧(0≤c.s2∧c.s2≤512))(hbad:c.s3<0∨c.s3>512)(w:World):
  Z 40 #[.agg c.list.toArray] w fun e w'=>∃u:V6,e= .returned (.tuple #[u.val,.bool false])∧Keeps (· <w.heap.size) w w':=by
 obtain⟨docs,terms,s0,s1,s2,s3,book,room,kk,bb⟩:=c;simp only at d0 d1 t0 t1 k0 k1 r0 r1 hs hbad;obtain⟨⟨ha0,hb0⟩,⟨ha1,hb1⟩,⟨ha2,hb2⟩⟩:=hs;have zz38:=PLift.up @c270;exact c265
set_option maxRecDepth 100000 in
set_option maxHeartbeats 4000000 in
theorem sizes_out (c:ConfM)(h:c.docs<1∨c.docs>64∨c.terms<64∨c.terms>256∨c.book<0∨c.book>65536∨c.room<0∨c.room>65536)(w:World):
  Z 40 #[.agg c.list.toArray] w fun e w'=>∃u:V6,e= .returned (.tuple #[u.val,.bool false])∧Keeps (· <w.heap.size) w w':=by
 obtain⟨docs,terms,s0,s1,s2,s3,book,room,kk,bb⟩:=c;simp only at h;refine calls_hide fun R' hR'=>?_;unfold ConfM.list
 by_cases q0:docs<1
 ·have g0:decide (docs<1)=true:=decide_eq_true q0;exact c5
 ·have g0:decide (docs<1)=false:=decide_eq_false q0
  by_cases q1:docs>64
  ·have g1:decide (docs>64)=true:=decide_eq_true q1;exact c5
  ·have g1:decide (docs>64)=false:=decide_eq_false q1
   by_cases q2:terms<64
   ·have g2:decide (terms<64)=true:=decide_eq_true q2;exact c5
   ·have g2:decide (terms<64)=false:=decide_eq_false q2
    by_cases q3:terms>256
    ·have g3:decide (terms>256)=true:=decide_eq_true q3;exact c5
    ·have g3:decide (terms>256)=false:=decide_eq_false q3
     by_cases q4:book<0
     ·have g4:decide (book<0)=true:=decide_eq_true q4;exact c5
     ·have g4:decide (book<0)=false:=decide_eq_false q4
      by_cases q5:book>65536
      ·have g5:decide (book>65536)=true:=decide_eq_true q5;exact c5
      ·have g5:decide (book>65536)=false:=decide_eq_false q5
       by_cases q6:room<0
       ·have g6:decide (room<0)=true:=decide_eq_true q6;exact c5
       ·have g6:decide (room<0)=false:=decide_eq_false q6
        by_cases q7:room>65536
        ·have g7:decide (room>65536)=true:=decide_eq_true q7;exact c5
        ·have g7:decide (room>65536)=false:=decide_eq_false q7
         omega
end Go.Proofs.YtogdknnkhkjmcaaGreatDoor
