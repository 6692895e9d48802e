/- Lemmas on the programs that the statement reaches. -/
import Derived.Test.YtogdknnkhkjmcaaGreatDoorKWrS
namespace Go.Proofs.YtogdknnkhkjmcaaGreatDoor
open Go.RowKit
set_option linter.all false
def V6.g6 (v:V6):Nat→Int
 |0=>v.a0
 |1=>v.a1
 |2=>v.a2
 |3=>v.a3
 |4=>v.a4
 |_=>v.a5
theorem all_six {P:Nat→Prop}(h0:P 0)(h1:P 1)(h2:P 2)(h3:P 3)(h4:P 4)(h5:P 5):∀k,k<6→P k
 |0,_=>h0
 |1,_=>h1
 |2,_=>h2
 |3,_=>h3
 |4,_=>h4
 |5,_=>h5
 |k+6,h=>by omega
theorem fitsP_iff (p:PlanM)(u m:V6)(hu:∀k,k<6→0≤u.g6 k∧u.g6 k≤p.size.g6 k∧p.size.g6 k≤65536∧0≤m.g6 k):fitsP p u m=true↔∀k,k<6→m.g6 k≤p.size.g6 k-u.g6 k:=by
 obtain⟨a0,b0,_,d0⟩:=hu 0 (by omega)
 obtain⟨a1,b1,_,d1⟩:=hu 1 (by omega)
 obtain⟨a2,b2,_,d2⟩:=hu 2 (by omega)
 obtain⟨a3,b3,_,d3⟩:=hu 3 (by omega)
 obtain⟨a4,b4,_,d4⟩:=hu 4 (by omega)
 obtain⟨a5,b5,_,d5⟩:=hu 5 (by omega)
 unfold V6.g6 at*;simp only at a0 a1 a2 a3 a4 a5 b0 b1 b2 b3 b4 b5 d0 d1 d2 d3 d4 d5;unfold fitsP;simp only[Bool.and_eq_true,decide_eq_true_eq]
 constructor
 ·rintro⟨⟨⟨⟨⟨h0,h1⟩,h2⟩,h3⟩,h4⟩,h5⟩;exact all_six h0.2.2.2 h1.2.2.2 h2.2.2.2 h3.2.2.2 h4.2.2.2 h5.2.2.2
 ·intro h;exact⟨⟨⟨⟨⟨⟨a0,d0,b0,h 0 (by omega)⟩,⟨a1,d1,b1,h 1 (by omega)⟩⟩,⟨a2,d2,b2,h 2 (by omega)⟩⟩,⟨a3,d3,b3,h 3 (by omega)⟩⟩,⟨a4,d4,b4,h 4 (by omega)⟩⟩,⟨a5,d5,b5,h 5 (by omega)⟩⟩
theorem fitsP_no {p:PlanM}{u m:V6}(hu:∀k,k<6→0≤u.g6 k∧u.g6 k≤p.size.g6 k∧p.size.g6 k≤65536∧0≤m.g6 k){k:Nat}(hk:k<6)(h:¬m.g6 k≤p.size.g6 k-u.g6 k):fitsP p u m=false:=by
 cases e:fitsP p u m with
 |false=>rfl
 |true=>exact absurd ((fitsP_iff p u m hu).1 e k hk) h
set_option maxRecDepth 100000 in
set_option maxHeartbeats 8000000 in
theorem fits_prog6 (p:PlanM)(u m:V6)(w:World)(hu:∀k,k<6→0≤u.g6 k∧u.g6 k≤p.size.g6 k∧p.size.g6 k≤65536∧0≤m.g6 k):
  Z 53 #[p.val,u.val,m.val] w fun e w'=>e= .returned (.bool (fitsP p u m))∧Keeps (· <w.heap.size) w w':=by
 have HU:=hid hu;clear hu;refine calls_hide fun R' hR'=>?_;unfold PlanM.val V6.val
 go_enter Tryz.func53,Tryz.ntmps53
 go_wp2_with fail
 refine wp_gen (fun W=>Blk W w.heap.size p.flat∧Blk W (w.heap.size+1) [I u.a0,I u.a1,I u.a2,I u.a3,I u.a4,I u.a5]∧Blk W (w.heap.size+1+1) [I m.a0,I m.a1,I m.a2,I m.a3,I m.a4,I m.a5]∧Keeps (· <w.heap.size) w W) ⟨?_,?_,?_,?_⟩ ?_
 ·exact c148
 ·exact bA
 ·exact bA
 ·exact kA
 rintro w0 ⟨hb0,hb1,hb2,hk0⟩;generalize hB:w.heap.size=B at*;have hb0':=hb0;unfold PlanM.flat at hb0';obtain⟨z0,z1,z2,z3,z4,z5,z6,z7,z8,z9,z10,z11,z12,z13,z14⟩:=hb0'.c15;clear hb0';have hpl:=hb0.lt;have Hb0:=hid hb0;have Hb1:=hid hb1;have Hb2:=hid hb2;have Hk0:=hid hk0;have HB:=hid hB;clear hb0 hb1 hb2 hk0 hB
 go_wp2_with fail
 clear z0 z1 z2 z3 z4 z5 z6 z7 z8 z9 z10 z11 z12 z13 z14 hpl
 go_loopw[11] (fun vi wr=>∃k:Nat,vi=I (k:Int)∧k≤6∧Hid (Blk wr B p.flat∧Blk wr (B+1) [I u.a0,I u.a1,I u.a2,I u.a3,I u.a4,I u.a5]∧Blk wr (B+1+1) [I m.a0,I m.a1,I m.a2,I m.a3,I m.a4,I m.a5]∧Keeps (· <B) w wr∧∀j,j<k→m.g6 j≤p.size.g6 j-u.g6 j)) (fun i _=>6-(intOf i).toNat)
 case atStart=>exact⟨0,rfl,by omega,hid ⟨Hb0.out,Hb1.out,Hb2.out,Hk0.out,fun j h=>by omega⟩⟩
 case round=>
  clear Hb0 Hb1 Hb2 Hk0;obtain⟨k,rfl,hk,HH⟩:=hrel;obtain⟨hb0,hb1,hb2,hkp,hno⟩:=HH.out;clear HH;have Hkp:=hid hkp;have Hno:=hid hno;clear hkp hno
  by_cases hk4:k<6
  ·have hcases:k=0∨k=1∨k=2∨k=3∨k=4∨k=5:=by omega
   clear hk hk4
   rcases hcases with rfl|rfl|rfl|rfl|rfl|rfl
   ·have c0:=hb0.cell 6;have zz32:=PLift.up @c248;exact c247
   ·have c0:=hb0.cell 7;have zz33:=PLift.up @c251;exact c250
   ·have c0:=hb0.cell 8;have zz34:=PLift.up @c254;exact c253
   ·have c0:=hb0.cell 9;have zz35:=PLift.up @c257;exact c256
   ·have c0:=hb0.cell 10;have zz36:=PLift.up @c260;exact c259
   ·have c0:=hb0.cell 11;have zz37:=PLift.up @c263;exact c262
  ·exact c447
set_option maxRecDepth 100000 in
set_option maxHeartbeats 8000000 in
theorem fits_ref6 (p:PlanM)(u m:V6)(w:World)(hu:∀k,k<6→0≤u.g6 k∧u.g6 k≤p.size.g6 k∧p.size.g6 k≤65536∧0≤m.g6 k):
  Z 64 #[p.val,u.val,m.val] w fun e w'=>e= .returned (.bool (fitsP p u m))∧Keeps (· <w.heap.size) w w':=by
 have HU:=hid hu;clear hu;refine calls_hide fun R' hR'=>?_;unfold PlanM.val V6.val
 go_enter Tryz.func64,Tryz.ntmps64
 go_wp2_with fail
 refine wp_gen (fun W=>Blk W w.heap.size p.flat∧Blk W (w.heap.size+1) [I u.a0,I u.a1,I u.a2,I u.a3,I u.a4,I u.a5]∧Blk W (w.heap.size+1+1) [I m.a0,I m.a1,I m.a2,I m.a3,I m.a4,I m.a5]∧Keeps (· <w.heap.size) w W) ⟨?_,?_,?_,?_⟩ ?_
 ·exact c148
 ·exact bA
 ·exact bA
 ·exact kA
 rintro w0 ⟨hb0,hb1,hb2,hk0⟩;generalize hB:w.heap.size=B at*;have Hb0:=hid hb0;have Hb1:=hid hb1;have Hb2:=hid hb2;have Hk0:=hid hk0;have HB:=hid hB;clear hb0 hb1 hb2 hk0 hB
 go_loopw[7] (fun vi wr=>∃k:Nat,vi=I (k:Int)∧k≤6∧Hid (Blk wr B p.flat∧Blk wr (B+1) [I u.a0,I u.a1,I u.a2,I u.a3,I u.a4,I u.a5]∧Blk wr (B+1+1) [I m.a0,I m.a1,I m.a2,I m.a3,I m.a4,I m.a5]∧Keeps (· <B) w wr∧∀j,j<k→m.g6 j≤p.size.g6 j-u.g6 j)) (fun i _=>6-(intOf i).toNat)
 case atStart=>exact⟨0,rfl,by omega,hid ⟨Hb0.out,Hb1.out,Hb2.out,Hk0.out,fun j h=>by omega⟩⟩
 case round=>
  clear Hb0 Hb1 Hb2 Hk0;obtain⟨k,rfl,hk,HH⟩:=hrel;obtain⟨hb0,hb1,hb2,hkp,hno⟩:=HH.out;clear HH;have Hkp:=hid hkp;have Hno:=hid hno;clear hkp hno
  by_cases hk4:k<6
  ·have hcases:k=0∨k=1∨k=2∨k=3∨k=4∨k=5:=by omega
   clear hk hk4
   rcases hcases with rfl|rfl|rfl|rfl|rfl|rfl
   ·have c0:=hb0.cell 6;have zz32:=PLift.up @c249;exact c247
   ·have c0:=hb0.cell 7;have zz33:=PLift.up @c252;exact c250
   ·have c0:=hb0.cell 8;have zz34:=PLift.up @c255;exact c253
   ·have c0:=hb0.cell 9;have zz35:=PLift.up @c258;exact c256
   ·have c0:=hb0.cell 10;have zz36:=PLift.up @c261;exact c259
   ·have c0:=hb0.cell 11;have zz37:=PLift.up @c264;exact c262
  ·exact c447
end Go.Proofs.YtogdknnkhkjmcaaGreatDoor
