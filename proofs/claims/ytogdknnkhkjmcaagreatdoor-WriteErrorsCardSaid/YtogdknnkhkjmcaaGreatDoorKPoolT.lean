/- Lemmas on the programs that the statement reaches. -/
import Derived.Test.YtogdknnkhkjmcaaGreatDoorKLay
namespace Go.Proofs.YtogdknnkhkjmcaaGreatDoor
open Go.RowKit
set_option linter.all false
def PTab (w:World):Prop:=(e0_4 w 0 (.int .i64 4) (.int .i64 16) (.int .i64 64) (.int .i64 256) (0<w.heap.size))
theorem PTab.keep {w w':World}{K:Nat→Prop}(h:PTab w)(k:Keeps K w w')(h0:K 0):PTab w':=by
 obtain⟨h1,h2,h3,h4,h5⟩:=h;have e:=fun i=>World.cell?_of_block (a:=⟨0,i,none⟩) (k.block 0 h0);exact⟨(e 0).trans h1,(e 1).trans h2,(e 2).trans h3,(e 3).trans h4,Nat.lt_of_lt_of_le h5 k.size⟩
def szK:Nat→Int
 |0=>4
 |1=>16
 |2=>64
 |_=>256
def PlanM.bK (p:PlanM):Nat→Int
 |0=>p.base.a0
 |1=>p.base.a1
 |2=>p.base.a2
 |_=>p.base.a3
def PlanM.sK (p:PlanM):Nat→Int
 |0=>p.size.a0
 |1=>p.size.a1
 |2=>p.size.a2
 |_=>p.size.a3
def PlanM.has (p:PlanM)(k:Nat)(a:Int):Prop:=p.bK k≤a∧a-p.bK k<p.sK k
instance (p:PlanM)(k:Nat)(a:Int):Decidable (p.has k a):=by unfold PlanM.has;infer_instance
def PlanM.cls (p:PlanM)(a:Int):Int×Int:=
 if p.has 0 a then(0,(a-p.bK 0)%4)else if p.has 1 a then(1,(a-p.bK 1)%16)else if p.has 2 a then(2,(a-p.bK 2)%64)else if p.has 3 a then(3,(a-p.bK 3)%256)else(-1,0)
structure PlanM.Wf (p:PlanM):Prop where
 b:∀k,0≤p.bK k∧p.bK k≤65536
 s:∀k,0≤p.sK k∧p.sK k≤65536
theorem PlanM.cls_at (p:PlanM)(a:Int)(k:Nat)(hk:k≤3)(h0:∀j,j<k→¬p.has j a)(h:p.has k a):p.cls a=((k:Int),(a-p.bK k)%szK k):=by
 unfold PlanM.cls
 match k,hk with
 |0,_=>rw[if_pos h];rfl
 |1,_=>rw[if_neg (h0 0 (by omega)),if_pos h];rfl
 |2,_=>rw[if_neg (h0 0 (by omega)),if_neg (h0 1 (by omega)),if_pos h];rfl
 |3,_=>rw[if_neg (h0 0 (by omega)),if_neg (h0 1 (by omega)),if_neg (h0 2 (by omega)),if_pos h];rfl
theorem PlanM.cls_none (p:PlanM)(a:Int)(h:∀j,j<4→¬p.has j a):p.cls a=(-1,0):=by
 unfold PlanM.cls;rw[if_neg (h 0 (by omega)),if_neg (h 1 (by omega)),if_neg (h 2 (by omega)),if_neg (h 3 (by omega))]
theorem Tryz.idx0 (w:World):(Instr.index 22 (.agg #[I 4,I 16,I 64,I 256]) (I 0)).run Tryz.prog w= .ok (I 4) w:=by kernel_rfl
theorem Tryz.idx1 (w:World):(Instr.index 22 (.agg #[I 4,I 16,I 64,I 256]) (I 1)).run Tryz.prog w= .ok (I 16) w:=by kernel_rfl
theorem Tryz.idx2 (w:World):(Instr.index 22 (.agg #[I 4,I 16,I 64,I 256]) (I 2)).run Tryz.prog w= .ok (I 64) w:=by kernel_rfl
theorem Tryz.idx3 (w:World):(Instr.index 22 (.agg #[I 4,I 16,I 64,I 256]) (I 3)).run Tryz.prog w= .ok (I 256) w:=by kernel_rfl
set_option maxRecDepth 100000 in
set_option maxHeartbeats 4000000 in
theorem class_call (p:PlanM)(a:Int)(w:World)(hp:p.Wf)(ht:PTab w)(ha: -9223372036854775808≤a∧a≤9223372036854775807):
  Z 104 #[p.val,I a] w fun e w'=>e= .returned (.tuple #[I (p.cls a).1,I (p.cls a).2])∧Keeps (· <w.heap.size) w w':=by
 obtain⟨ha0,ha1⟩:=ha;obtain⟨t0,t1,t2,t3,t4⟩:=ht;have HCA:=hid (p.cls_at a);have HCN:=hid (p.cls_none a);have HWF:=hid hp;clear hp;refine calls_hide fun R' hR'=>?_;unfold PlanM.val
 go_enter Tryz.func104,Tryz.ntmps104
 go_wp2_with fail
 have hb0:Blk (w.alloc (.cells p.flat.toArray 42)) w.heap.size p.flat:=Blk.new w p.flat _;have hk0:Keeps (· <w.heap.size) w (w.alloc (.cells p.flat.toArray 42)):=(Keeps.refl _ _).alloc (fun b hb=>hb) _;change Code.wp _ _ _ _ (w.alloc (.cells p.flat.toArray 42));generalize w.alloc (.cells p.flat.toArray 42)=w0 at*;generalize hB:w.heap.size=B at*;have Hb0:=hid hb0;have Hk0:=hid hk0
 have HB:=hid hB;clear hb0 hk0 hB;clear t0 t1 t2 t3 t4
 go_loopw[9] (fun vi wr=>∃k q:Nat,vi=I (k:Int)∧k≤4∧w0.drewN q=wr∧Hid (∀j,j<k→¬p.has j a)) (fun i _=>4-(intOf i).toNat)
 case atStart=>exact⟨0,0,rfl,by omega,rfl,hid fun j h=>by omega⟩
 case round=>
  obtain⟨k,q,rfl,hk,hw,HN⟩:=hrel;have Hw:=hid hw;clear hw;have hblk:Blk wr B p.flat:=by rw[←Hw.out];exact Hb0.out.drewN q
  by_cases hk4:k<4
  ·have hcases:k=0∨k=1∨k=2∨k=3:=by omega
   clear hk hk4
   rcases hcases with rfl|rfl|rfl|rfl
   ·have hix:=Tryz.idx0;have c1:=hblk.cell 0;have zz120:=PLift.up @c610;exact c609
   ·have hix:=Tryz.idx1;have c1:=hblk.cell 1;have zz121:=PLift.up @c613;exact c612
   ·have hix:=Tryz.idx2;have c1:=hblk.cell 2;have zz122:=PLift.up @c616;exact c615
   ·have hix:=Tryz.idx3;have c1:=hblk.cell 3;have zz123:=PLift.up @c619;exact c618
  ·have hk':k=4:=by omega
   subst hk';clear hblk
   go_wp2_with fail
   refine hR'.out _ _ ⟨?_,?_⟩
   ·rw[HCN.out HN.out];rfl
   ·rw[←Hw.out];exact Hk0.out.drewN q
set_option maxRecDepth 100000 in
set_option maxHeartbeats 400000 in
theorem slab_call (k:Nat)(hk:k≤3)(w:World)(ht:PTab w):Z 105 #[I (k:Int)] w fun e w'=>e= .returned (I (szK k))∧w'=w:=by
 obtain⟨t0,t1,t2,t3,t4⟩:=ht;have hcases:k=0∨k=1∨k=2∨k=3:=by omega
 clear hk;refine calls_hide fun R' hR'=>?_
 rcases hcases with rfl|rfl|rfl|rfl
 all_goals
  go_enter Tryz.func105,Tryz.ntmps105
  go_wp2_with fail
  refine(between_yes _ _ _ _ (by omega)).mono ?_
  rintro e w' ⟨rfl,rfl⟩
  go_wp2_with fail
  exact hR'.out _ _ ⟨rfl,rfl⟩
def PlanM.next (p:PlanM)(t:Int):Int×Bool:=
 if t=0 then(0,true)else if(p.cls t).1<0∨(p.cls t).2=0 then(0,false)
 else if(p.cls t).2=szK (p.cls t).1.toNat-1 then(if(p.cls t).1+1≤3 then(p.cls t).1+1 else 3,true)else(-1,true)
theorem PlanM.cls_range (p:PlanM)(a:Int):(p.cls a).1= -1∨∃k:Nat,k≤3∧(p.cls a).1=(k:Int):=by
 unfold PlanM.cls
 split
 ·exact Or.inr ⟨0,by omega,rfl⟩
 ·split
  ·exact Or.inr ⟨1,by omega,rfl⟩
  ·split
   ·exact Or.inr ⟨2,by omega,rfl⟩
   ·split
    ·exact Or.inr ⟨3,by omega,rfl⟩
    ·exact Or.inl rfl
set_option maxRecDepth 100000 in
set_option maxHeartbeats 2000000 in
theorem next_call (p:PlanM)(t:Int)(w:World)(hp:p.Wf)(ht:PTab w)(ha: -9223372036854775808≤t∧t≤9223372036854775807):
  Z 103 #[p.val,I t] w fun e w'=>e= .returned (.tuple #[I (p.next t).1,.bool (p.next t).2])∧Keeps (· <w.heap.size) w w':=by
 have HT:=hid ht;have HP:=hid hp;have HA:=hid ha;clear hp ht ha;refine calls_hide fun R' hR'=>?_;unfold PlanM.next at hR'
 by_cases h0:t=0
 ·subst h0;rw[if_pos rfl]at hR';unfold PlanM.val
  go_enter Tryz.func103,Tryz.ntmps103
  go_wp2_with fail
  exact hR'.out _ _ ⟨rfl,(Keeps.refl _ _).alloc (fun b hb=>hb) _⟩
 ·rw[if_neg h0]at hR';have g0:(t==0)=false:=by simpa using h0
  have hr:=p.cls_range t;have hcall:=fun w hw=>class_call p t w HP.out hw HA.out;generalize p.cls t=r at*;obtain⟨r1,r2⟩:=r;simp only at hr hR';unfold PlanM.val at*
  go_enter Tryz.func103,Tryz.ntmps103
  go_wp2_with fail
  have hk0:Keeps (· <w.heap.size) w (w.alloc (.cells p.flat.toArray 42)):=(Keeps.refl _ _).alloc (fun b hb=>hb) _;refine calls_gen (fun W=>Keeps (· <w.heap.size) w W) hk0 (fun W hW=>?_);refine(hcall W (HT.out.keep hW HT.out.2.2.2.2)).mono ?_;rintro e w1 ⟨rfl,hk1⟩;have HK:=hid (hW.trans (hk1.mono fun b hb=>by have:=hW.size;omega))
  have HT1:=hid (HT.out.keep HK.out HT.out.2.2.2.2);clear hcall hk0 hW hk1
  rcases hr with rfl|⟨k,hk,rfl⟩
  ·rw[if_pos (Or.inl (by omega))]at hR'
   exact c106
  ·have g1:decide ((k:Int)<0)=false:=decide_eq_false (by omega)
   by_cases h2:r2=0
   ·subst h2;rw[if_pos (Or.inr rfl)]at hR';exact c106
   ·have g2:(r2==0)=false:=by simpa using h2
    rw[if_neg (by rintro(h|h);omega;exact h2 h),show((k:Int)).toNat=k from by omega]at hR'
    have HKL:=hid hk;clear h2
    go_wp2_with fail
    refine(slab_call k HKL.out w1 HT1.out).mono ?_;rintro e w2 ⟨rfl,rfl⟩;have hsz:szK k≤256∧4≤szK k:=by
     exact c120
    generalize szK k=z at*;obtain⟨z1,z2⟩:=hsz
    by_cases h3:r2=z-1
    ·rw[if_pos h3]at hR';have g3:(r2==z-1)=true:=by simpa using h3
     have HN:=hid h3;clear h3
     by_cases h4:(k:Int)+1≤3
     ·rw[if_pos h4]at hR';have g4:(k:Int)+1<3∨(k:Int)+1=3:=by omega
      have hmin:min ((k:Int)+1) 3=(k:Int)+1:=Int.min_eq_left h4;exact c106
     ·rw[if_neg h4]at hR';have hmin:min ((k:Int)+1) 3=3:=Int.min_eq_right (by omega)
      exact c106
    ·rw[if_neg h3]at hR';have g3:(r2==z-1)=false:=by simpa using h3
     clear h3;exact c106
set_option maxRecDepth 100000 in
set_option maxHeartbeats 1000000 in
theorem take_yes0 (p:PlanM)(u:V6)(n:Int)(w:World)(h1:1≤n)(h0:0≤u.a0)(h2:u.a0+n≤p.size.a0)(h3:p.size.a0≤65536)(hb:0≤p.base.a0∧p.base.a0≤65536):
  Z 43 #[p.val,u.val,I 0,I n] w fun e w'=>
   e= .returned (.tuple #[I (p.base.a0+u.a0),V6.val { u with a0:=u.a0+n },I 0])∧Keeps (· <w.heap.size) w w':=by
 have zz152:=PLift.up @c724;exact c722
set_option maxRecDepth 100000 in
set_option maxHeartbeats 1000000 in
theorem take_no0 (p:PlanM)(u:V6)(n:Int)(w:World)(h1:1≤n)(hn:n≤1099511627776)(h0:0≤u.a0)(hu:u.a0≤p.size.a0)(h2:p.size.a0<u.a0+n)(h3:p.size.a0≤65536):
  Z 43 #[p.val,u.val,I 0,I n] w fun e w'=>
   e= .returned (.tuple #[I 0,V6.val ⟨0,0,0,0,0,0⟩,I 3])∧Keeps (· <w.heap.size) w w':=by
 have zz45:=PLift.up @c289;exact c287
set_option maxRecDepth 100000 in
set_option maxHeartbeats 1000000 in
theorem take_yes1 (p:PlanM)(u:V6)(n:Int)(w:World)(h1:1≤n)(h0:0≤u.a1)(h2:u.a1+n≤p.size.a1)(h3:p.size.a1≤65536)(hb:0≤p.base.a1∧p.base.a1≤65536):
  Z 43 #[p.val,u.val,I 1,I n] w fun e w'=>
   e= .returned (.tuple #[I (p.base.a1+u.a1),V6.val { u with a1:=u.a1+n },I 0])∧Keeps (· <w.heap.size) w w':=by
 have zz152:=PLift.up @c725;exact c722
set_option maxRecDepth 100000 in
set_option maxHeartbeats 1000000 in
theorem take_no1 (p:PlanM)(u:V6)(n:Int)(w:World)(h1:1≤n)(hn:n≤1099511627776)(h0:0≤u.a1)(hu:u.a1≤p.size.a1)(h2:p.size.a1<u.a1+n)(h3:p.size.a1≤65536):
  Z 43 #[p.val,u.val,I 1,I n] w fun e w'=>
   e= .returned (.tuple #[I 0,V6.val ⟨0,0,0,0,0,0⟩,I 3])∧Keeps (· <w.heap.size) w w':=by
 have zz45:=PLift.up @c290;exact c287
set_option maxRecDepth 100000 in
set_option maxHeartbeats 1000000 in
theorem take_yes2 (p:PlanM)(u:V6)(n:Int)(w:World)(h1:1≤n)(h0:0≤u.a2)(h2:u.a2+n≤p.size.a2)(h3:p.size.a2≤65536)(hb:0≤p.base.a2∧p.base.a2≤65536):
  Z 43 #[p.val,u.val,I 2,I n] w fun e w'=>
   e= .returned (.tuple #[I (p.base.a2+u.a2),V6.val { u with a2:=u.a2+n },I 0])∧Keeps (· <w.heap.size) w w':=by
 have zz152:=PLift.up @c726;exact c722
set_option maxRecDepth 100000 in
set_option maxHeartbeats 1000000 in
theorem take_no2 (p:PlanM)(u:V6)(n:Int)(w:World)(h1:1≤n)(hn:n≤1099511627776)(h0:0≤u.a2)(hu:u.a2≤p.size.a2)(h2:p.size.a2<u.a2+n)(h3:p.size.a2≤65536):
  Z 43 #[p.val,u.val,I 2,I n] w fun e w'=>
   e= .returned (.tuple #[I 0,V6.val ⟨0,0,0,0,0,0⟩,I 3])∧Keeps (· <w.heap.size) w w':=by
 have zz45:=PLift.up @c291;exact c287
set_option maxRecDepth 100000 in
set_option maxHeartbeats 1000000 in
theorem take_yes3 (p:PlanM)(u:V6)(n:Int)(w:World)(h1:1≤n)(h0:0≤u.a3)(h2:u.a3+n≤p.size.a3)(h3:p.size.a3≤65536)(hb:0≤p.base.a3∧p.base.a3≤65536):
  Z 43 #[p.val,u.val,I 3,I n] w fun e w'=>
   e= .returned (.tuple #[I (p.base.a3+u.a3),V6.val { u with a3:=u.a3+n },I 0])∧Keeps (· <w.heap.size) w w':=by
 have zz152:=PLift.up @c727;exact c722
set_option maxRecDepth 100000 in
set_option maxHeartbeats 1000000 in
theorem take_no3 (p:PlanM)(u:V6)(n:Int)(w:World)(h1:1≤n)(hn:n≤1099511627776)(h0:0≤u.a3)(hu:u.a3≤p.size.a3)(h2:p.size.a3<u.a3+n)(h3:p.size.a3≤65536):
  Z 43 #[p.val,u.val,I 3,I n] w fun e w'=>
   e= .returned (.tuple #[I 0,V6.val ⟨0,0,0,0,0,0⟩,I 3])∧Keeps (· <w.heap.size) w w':=by
 have zz45:=PLift.up @c292;exact c287
def V6.uK (u:V6):Nat→Int
 |0=>u.a0
 |1=>u.a1
 |2=>u.a2
 |_=>u.a3
def V6.up (u:V6)(k:Nat)(n:Int):V6:=
 match k with
 |0=>{ u with a0:=u.a0+n }
 |1=>{ u with a1:=u.a1+n }
 |2=>{ u with a2:=u.a2+n }
 |_=>{ u with a3:=u.a3+n }
theorem take_yes (p:PlanM)(u:V6)(k:Nat)(hk:k≤3)(n:Int)(w:World)(hp:p.Wf)(h1:1≤n)(h0:0≤u.uK k)(h2:u.uK k+n≤p.sK k):
  Z 43 #[p.val,u.val,I (k:Int),I n] w fun e w'=>
   e= .returned (.tuple #[I (p.bK k+u.uK k),(u.up k n).val,I 0])∧Keeps (· <w.heap.size) w w':=by
 have hs:=(hp.s k).2;have hb:=hp.b k
 match k,hk with
 |0,_=>exact take_yes0 p u n w h1 h0 h2 hs hb
 |1,_=>exact take_yes1 p u n w h1 h0 h2 hs hb
 |2,_=>exact take_yes2 p u n w h1 h0 h2 hs hb
 |3,_=>exact take_yes3 p u n w h1 h0 h2 hs hb
theorem take_no (p:PlanM)(u:V6)(k:Nat)(hk:k≤3)(n:Int)(w:World)(hp:p.Wf)(h1:1≤n)(hn:n≤1099511627776)(h0:0≤u.uK k)(hu:u.uK k≤p.sK k)(h2:p.sK k<u.uK k+n):
  Z 43 #[p.val,u.val,I (k:Int),I n] w fun e w'=>
   e= .returned (.tuple #[I 0,V6.val ⟨0,0,0,0,0,0⟩,I 3])∧Keeps (· <w.heap.size) w w':=by
 have hs:=(hp.s k).2
 match k,hk with
 |0,_=>exact take_no0 p u n w h1 hn h0 hu h2 hs
 |1,_=>exact take_no1 p u n w h1 hn h0 hu h2 hs
 |2,_=>exact take_no2 p u n w h1 hn h0 hu h2 hs
 |3,_=>exact take_no3 p u n w h1 hn h0 hu h2 hs
end Go.Proofs.YtogdknnkhkjmcaaGreatDoor
