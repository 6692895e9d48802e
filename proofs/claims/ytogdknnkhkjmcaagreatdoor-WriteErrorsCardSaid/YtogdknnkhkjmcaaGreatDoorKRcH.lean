/- Lemmas on the programs that the statement reaches. -/
import Derived.Test.YtogdknnkhkjmcaaGreatDoorKWrB
import Derived.Test.YtogdknnkhkjmcaaGreatDoorKWrG
namespace Go.Proofs.YtogdknnkhkjmcaaGreatDoor
open Go.RowKit
set_option linter.all false
def V6.in (u:V6)(b:Int):Prop:=(0≤u.a0∧u.a0≤b)∧(0≤u.a1∧u.a1≤b)∧(0≤u.a2∧u.a2≤b)∧(0≤u.a3∧u.a3≤b)∧(0≤u.a4∧u.a4≤b)∧(0≤u.a5∧u.a5≤b)
theorem needL_in:∀(f:Nat) (n room:Int) (k:Nat) (out:V6) (b:Int),out.in b→(needL f n room k out).in (b+256*f)
 |0,_,_,_,out,b,h=>by unfold needL;simpa using h
 |f+1,n,room,k,out,b,h=>by
  unfold needL;have hz:=szK_bd k
  split
  ·have h2:(out.up k (szK k)).in (b+256):=by
    obtain⟨h0,h1,h2,h3,h4,h5⟩:=h;unfold V6.up V6.in
    split<;>dsimp only<;>omega
   have:=needL_in f (n-room) (szK k-1) (min (k+1) 3) (out.up k (szK k)) (b+256) h2;have e:b+256+256*(f:Int)=b+256*((f+1:Nat):Int):=by omega
   rw[e]at this;exact this
  ·obtain⟨h0,h1,h2,h3,h4,h5⟩:=h;unfold V6.in
   omega
theorem need_in (p:PlanM)(t n:Int):(p.need t n).in (256*(n.toNat+2:Nat)):=by
 have hz:zerosN.in 0:=by unfold zerosN V6.in;decide
 unfold PlanM.need
 split
 ·unfold zerosN V6.in;dsimp only;omega
 ·split
  ·have:=needL_in (n.toNat+2) n (szK (p.cls t).1.toNat-1-(p.cls t).2) (min ((p.cls t).1.toNat+1) 3) zerosN 0 hz
   rwa [Int.zero_add]at this
  ·have:=needL_in (n.toNat+2) n 0 (p.next t).1.toNat zerosN 0 hz
   rwa [Int.zero_add]at this
def upK (m n:V6):Nat→List Value
 |0=>[.int .i64 m.a0,.int .i64 m.a1,.int .i64 m.a2,.int .i64 m.a3,.int .i64 m.a4,.int .i64 m.a5]
 |1=>[.int .i64 (m.a0+n.a0),.int .i64 m.a1,.int .i64 m.a2,.int .i64 m.a3,.int .i64 m.a4,.int .i64 m.a5]
 |2=>[.int .i64 (m.a0+n.a0),.int .i64 (m.a1+n.a1),.int .i64 m.a2,.int .i64 m.a3,.int .i64 m.a4,.int .i64 m.a5]
 |3=>[.int .i64 (m.a0+n.a0),.int .i64 (m.a1+n.a1),.int .i64 (m.a2+n.a2),.int .i64 m.a3,.int .i64 m.a4,.int .i64 m.a5]
 |4=>[.int .i64 (m.a0+n.a0),.int .i64 (m.a1+n.a1),.int .i64 (m.a2+n.a2),.int .i64 (m.a3+n.a3),.int .i64 m.a4,.int .i64 m.a5]
 |5=>[.int .i64 (m.a0+n.a0),.int .i64 (m.a1+n.a1),.int .i64 (m.a2+n.a2),.int .i64 (m.a3+n.a3),.int .i64 (m.a4+n.a4),.int .i64 m.a5]
 |_=>[.int .i64 (m.a0+n.a0),.int .i64 (m.a1+n.a1),.int .i64 (m.a2+n.a2),.int .i64 (m.a3+n.a3),.int .i64 (m.a4+n.a4),.int .i64 (m.a5+n.a5)]
def V6.list6 (u:V6):List Value:=[.int .i64 u.a0,.int .i64 u.a1,.int .i64 u.a2,.int .i64 u.a3,.int .i64 u.a4,.int .i64 u.a5]
theorem needsP_cons (p:PlanM)(t:TermM)(l:List TermM)(fr:Int)(more:V6):needsP p (t::l) fr more=if t.recd=0 then needsP p l (fr+1) ({ more with a4:=more.a4+(2+(((t.key.size+3)/4:Nat):Int)) }.sum (p.need t.tl t.cnt))else needsP p l fr (more.sum (p.need t.tl t.cnt)):=rfl
set_option maxRecDepth 100000 in
set_option maxHeartbeats 4000000 in
theorem write_needs (p:PlanM)(hp:p.Wf)(l:List TermM)(A:Option Addr)(cp:Nat)(w:World)(K:Nat→Prop)(hb:∀b,K b→b<w.heap.size)(hT:PTab w)(hsl:SlAt w K 4 (.slice A l.length cp) l.length (l.flatMap TermM.cells))(hl:l.length≤64)
  (hc:∀t∈l,t.key.size≤1000∧(0≤t.cnt∧t.cnt≤64)∧(0≤t.tl∧t.tl≤4294967295)):
  Z 52 #[p.val,.slice A l.length cp] w fun e w'=>e= .returned (.tuple #[I (needsP p l 0 zero6).1,(needsP p l 0 zero6).2.val])∧Keeps (· <w.heap.size) w w':=by
 have hcp:=hsl.capOf;unfold maxLen at hcp;obtain⟨hcp0,hcp1⟩:=hcp;generalize hres:needsP p l 0 zero6=res;have Hp:=hid hp;have Hb:=hid hb;have HT:=hid hT;have Hsl:=hid hsl;have Hc:=hid hc;have Hres:=hid hres;clear hp hb hT hsl hc hres;refine calls_hide fun R' hR'=>?_;unfold PlanM.val V6.val at*
 go_enter Tryz.func52,Tryz.ntmps52
 go_wp2_with fail
 refine wp_gen (fun W=>Blk W w.heap.size p.flat∧Blk W (w.heap.size+1) [I 0,I 0,I 0,I 0,I 0,I 0]∧Blk W (w.heap.size+1+1) [I 0,I 0,I 0,I 0,I 0,I 0]∧Keeps (· <w.heap.size) w W) ⟨?_,?_,?_,?_⟩ (fun W1 HW=>?_)
 ·exact c107
 ·exact bA
 ·exact bA
 ·exact kA
 obtain⟨hA0,hA1,hA2,hkA⟩:=HW;generalize hB:w.heap.size=B at*;have hl0:=hA0.lt;have hl2:=hA2.lt;have HA0:=hid hA0;have HA1:=hid hA1;have HkA:=hid hkA;clear hA0 hA1 hkA
 go_loopw[6,14] (fun fv iv wx=>∃(i:Nat) (fr:Int) (more:V6),fv=I fr∧iv=I (i:Int)∧i≤l.length∧(0≤fr∧fr≤(i:Int))∧more.in (20000*(i:Int))∧Hid (needsP p (l.drop i) fr more=res)∧Hid (Blk wx (B+1+1) more.list6)∧Hid (Keeps (fun b=>b<B+1+1) W1 wx)∧B+1+1<wx.heap.size) (fun _ iv _=>l.length-(intOf iv).toNat)
 case atStart=>exact⟨0,0,zero6,rfl,rfl,Nat.zero_le _,⟨by decide,by decide⟩,by unfold zero6 V6.in;decide,Hres,hid hA2,hid (Keeps.refl _ _),hl2⟩
 case round=>
  clear hA2;obtain⟨i,fr,more,rfl,rfl,hi,⟨hf0,hf1⟩,hmi,HN,HM,HK,hszw⟩:=hrel
  by_cases hlt:i<l.length
  ·have hltI:(i:Int)<(l.length:Int):=by omega
   obtain⟨t,hx⟩:∃x,l[i]? =some x:=⟨_,List.getElem?_eq_getElem hlt⟩;obtain⟨b0,o0,rfl,hkb,g1⟩:=SlAt.rec (f:=TermM.cells) (fun _ _=>rfl) Hsl.out i _ hx;obtain⟨t1,⟨t2,t3⟩,t4,t5⟩:=Hc.out _ (List.mem_of_getElem? hx);have hh0:=Hb.out _ hkb;have hkw:=HkA.out.trans (HK.out.mono fun b hb=>by omega)
   have a0:=(World.cell?_of_block (a:=⟨b0,o0+i*4+0,none⟩) (hkw.block b0 hh0)).trans (g1 0 _ rfl);have a1:=(World.cell?_of_block (a:=⟨b0,o0+i*4+1,none⟩) (hkw.block b0 hh0)).trans (g1 1 _ rfl);have a2:=(World.cell?_of_block (a:=⟨b0,o0+i*4+2,none⟩) (hkw.block b0 hh0)).trans (g1 2 _ rfl);have a3:=(World.cell?_of_block (a:=⟨b0,o0+i*4+3,none⟩) (hkw.block b0 hh0)).trans (g1 3 _ rfl)
   simp only[Nat.add_zero]at a0;have hnx:=HN.out;rw[show l.drop i=t::l.drop (i+1) by
    obtain⟨h9,h8⟩:=List.getElem?_eq_some_iff.1 hx;rw[List.drop_eq_getElem_cons h9,h8],needsP_cons]at hnx
   have hneed:=fun W hW=>need_call p t.tl t.cnt W Hp.out hW (by omega) (by omega)
   have hni:=need_in p t.tl t.cnt;obtain⟨tk,tr,tt,tc⟩:=t;dsimp only at t1 t2 t3 t4 t5 hnx hneed hni;have a0:wr.cell? ⟨b0,o0+i*4,none⟩=some (.string tk):=a0;have a1:wr.cell? ⟨b0,o0+i*4+1,none⟩=some (I tr):=a1;have a2:wr.cell? ⟨b0,o0+i*4+2,none⟩=some (I tt):=a2;have a3:wr.cell? ⟨b0,o0+i*4+3,none⟩=some (I tc):=a3;have hnb:(256:Int)*((tc.toNat+2:Nat):Int)≤17000:=by omega
   generalize p.need tt tc=nd at*;obtain⟨n0,n1,n2,n3,n4,n5⟩:=nd;obtain⟨m0,m1,m2,m3,m4,m5⟩:=more;unfold V6.in at hni hmi;dsimp only at hni hmi;obtain⟨⟨p0,q0⟩,⟨p1,q1⟩,⟨p2,q2⟩,⟨p3,q3⟩,⟨p4,q4⟩,⟨p5,q5⟩⟩:=hni;obtain⟨⟨r0,s0⟩,⟨r1,s1⟩,⟨r2,s2⟩,⟨r3,s3⟩,⟨r4,s4⟩,⟨r5,s5⟩⟩:=hmi;have hm:=HM.out;have hm:Blk wr (B+1+1) [I m0,I m1,I m2,I m3,I m4,I m5]:=hm
   have HMB:=hid hm;clear g1 hx HN hkw HM;have Hnx:=hid hnx;have Hneed:=hid hneed;clear hnx hneed;have hi64:(i:Int)≤64:=by omega
   by_cases hr:tr=0
   ·subst hr;have hnx:=Hnx.out;rw[if_pos rfl]at hnx;clear Hnx;have Hnx:=hid hnx;clear hnx;obtain⟨y0,y1,y2,y3,y4,y5⟩:=hm.c6;have hfz:=hm.free 4;clear hm
    go_upto_region 8 with fail
    have hfin:∀W',Keeps (· <wr.heap.size+1) (wr.alloc (.cells #[.string tk,I 0,I tt,I tc] 154)) W'→Blk W' (B+1+1) [I m0,I m1,I m2,I m3,I m4,I m5]∧Blk W' wr.heap.size [.string tk,I 0,I tt,I tc]∧Keeps (fun b=>b<B+1+1) W1 W':=fun W' hk=>⟨(HMB.out.alloc _).keep hk (by omega),(Blk.new wr [.string tk,I 0,I tt,I tc] 154).keep hk (by omega),(HK.out.alloc (fun b hb=>by omega) _).trans (hk.mono fun b hb=>by omega)⟩
    have Hfin:=hid hfin;clear hfin;generalize hTB:wr.heap.size=tb at*;have hsz:(wr.alloc (.cells #[.string tk,I 0,I tt,I tc] 154)).heap.size=tb+1:=by rw[World.size_alloc,hTB]
    obtain⟨hq1,hq2,hq3⟩:=Hfin.out _ (Keeps.refl _ _);generalize wr.alloc (.cells #[.string tk,I 0,I tt,I tc] 154)=W2 at*;have x4:=hq1.cell 4;have x0:=hq2.cell 0;simp only[List.getElem?_cons_zero,List.getElem?_cons_succ]at x4 x0;clear hq1 hq2 hq3 HK HMB y0 y1 y2 y3 y4 y5 hfz hTB;refine wp_region_held_drew (S:=fun _=>True) (by kernel_rfl) trivial (fun hHeld0=>?_)
    refine wpAnyH_head (S:=fun w'=>w'.cell? ⟨B+1+1,4,none⟩=some (I m4)∧w'.cell? ⟨tb,0,none⟩=some (.string tk)) 8 8 [] #[false,false,false,false,false,false,false,false] (by kernel_rfl) (by kernel_rfl) (by kernel_rfl) (fun _ _=>trivial) ?_
    simp only[List.take_succ_cons,List.take_zero];have hHeld:W2.drew.cell? ⟨B+1+1,4,none⟩=some (I m4)∧W2.drew.cell? ⟨tb,0,none⟩=some (.string tk):=⟨x4,x0⟩;have zz14:=PLift.up @c186;exact c185
   ·have hrb:(tr==0)=false:=by simpa using hr
    have hnx:=Hnx.out;rw[if_neg hr]at hnx;have hnx:needsP p (l.drop (i+1)) fr ⟨m0+n0,m1+n1,m2+n2,m3+n3,m4+n4,m5+n5⟩=res:=hnx;clear Hnx hr hm;have hMx:=HMB.out.alloc (.cells #[.string tk,I tr,I tt,I tc] 154);have hBt:=Blk.new wr [.string tk,I tr,I tt,I tc] 154;have hKx:=HK.out.alloc (fun b hb=>by omega) (.cells #[.string tk,I tr,I tt,I tc] 154)
    have Hnx:=hid hnx;have HMx:=hid hMx;have HBt:=hid hBt;have HKx:=hid hKx;clear hnx hMx hBt hKx
    go_upto_region 9 with fail
    generalize hTB:wr.heap.size=tb at*;generalize wr.alloc (.cells #[.string tk,I tr,I tt,I tc] 154)=WX at*;clear HK HMB a0 a1 a2 a3 hTB;have zz87:=PLift.up @c487;exact c486
  ·obtain rfl:i=l.length:=by omega
   have hltI:¬(l.length:Int)<(l.length:Int):=by omega
   obtain⟨m0,m1,m2,m3,m4,m5⟩:=more;have hfin:(fr,(⟨m0,m1,m2,m3,m4,m5⟩:V6))=res:=by
    have:=HN.out;rw[List.drop_length]at this;exact this
   have hm:Blk wr (B+1+1) [I m0,I m1,I m2,I m3,I m4,I m5]:=HM.out;have hr1:=HA1.out.keep HK.out (by omega)
   have hkk:=HkA.out.trans (HK.out.mono fun b hb=>by omega)
   clear HN HM;have Hfin:=hid hfin;have Hkk:=hid hkk;clear hfin hkk;have hl1:=hr1.lt;have hwl:B+1+1<wr.heap.size:=hm.lt;obtain⟨x0,x1,x2,x3,x4,x5⟩:=hm.c6;have HR1:=hid hr1;clear hm hr1
   go_upto_region 15 with fail
   have y0:=fun q:KC (· <wr.heap.size) wr=>q.cell hwl x0;have y1:=fun q:KC (· <wr.heap.size) wr=>q.cell hwl x1;have y2:=fun q:KC (· <wr.heap.size) wr=>q.cell hwl x2;have y3:=fun q:KC (· <wr.heap.size) wr=>q.cell hwl x3;have y4:=fun q:KC (· <wr.heap.size) wr=>q.cell hwl x4;have y5:=fun q:KC (· <wr.heap.size) wr=>q.cell hwl x5;refine wp_region_kc_tail (· <wr.heap.size) 3 (by kernel_rfl) (by kernel_rfl) ?_
   simp only[List.take_succ_cons,List.take_zero,List.drop_succ_cons,List.drop_zero]
   repeat(go_big_quiet_step (fail))
   refine wpQuiet_nil ?_;rintro _ ⟨⟨wq,hkq⟩,rfl⟩;have hr1:=HR1.out.keep hkq HR1.out.lt;have hkf:=Hkk.out.trans (hkq.mono fun b hb=>by have:=Hkk.out.size;omega)
   clear y0 y1 y2 y3 y4 y5 x0 x1 x2 x3 x4 x5 hkq HR1 hwl Hkk HK;have Hkf:=hid hkf;clear hkf;have g0:=hr1.free 0;have g1:=hr1.free 1;have g2:=hr1.free 2;have g3:=hr1.free 3;have g4:=hr1.free 4;have g5:=hr1.free 5;have hl1:=hr1.lt;obtain⟨z0,z1,z2,z3,z4,z5⟩:=hr1.c6
   go_wp2_with fail
   refine bp_gen (fun W=>Blk W (B+1) [I m0,I m1,I m2,I m3,I m4,I m5]∧Keeps (· <B) w W) ⟨?_,?_⟩ ?_
   ·first|with_reducible exact Blk.set6 hr1 _ _ _ _ _ _ (by simp)|with_reducible exact(Blk.set6 hr1 _ _ _ _ _ _ (by simp)).drew
   ·repeat(first|with_reducible exact Hkf.out|with_reducible refine Keeps.setCell ?_ ?_ _)
    all_goals(simp)
   clear hr1 z0 z1 z2 z3 z4 z5 g0 g1 g2 g3 g4 g5;rintro W2 ⟨g1,g2⟩;obtain⟨d0,d1,d2,d3,d4,d5⟩:=g1.c6;refine bodyPost_ret (v:= .tuple #[I fr,.agg #[I m0,I m1,I m2,I m3,I m4,I m5]]) ?_ rfl ?_
   ·simp[results,Tryz.results52,go_sem,d0,d1,d2,d3,d4,d5]
   ·refine hR'.out _ _ ⟨?_,g2⟩;rw[←Hfin.out]
set_option maxRecDepth 100000 in
set_option maxHeartbeats 2000000 in
theorem rtake0 (p:PlanM)(u:V6)(n:Int)(w:World)(h1:1≤n)(h0:0≤u.a0)(h2:u.a0+n≤p.size.a0)(h3:p.size.a0≤65536)(hb:0≤p.base.a0∧p.base.a0≤65536):
  Z 108 #[p.val,u.val,I 0,I n] w fun e w'=>
   e= .returned (.tuple #[I (p.base.a0+u.a0),V6.val { u with a0:=u.a0+n },I 0])∧Keeps (· <w.heap.size) w w':=by
 have zz116:=PLift.up @c589;exact c588
set_option maxRecDepth 100000 in
set_option maxHeartbeats 2000000 in
theorem rtake1 (p:PlanM)(u:V6)(n:Int)(w:World)(h1:1≤n)(h0:0≤u.a1)(h2:u.a1+n≤p.size.a1)(h3:p.size.a1≤65536)(hb:0≤p.base.a1∧p.base.a1≤65536):
  Z 108 #[p.val,u.val,I 1,I n] w fun e w'=>
   e= .returned (.tuple #[I (p.base.a1+u.a1),V6.val { u with a1:=u.a1+n },I 0])∧Keeps (· <w.heap.size) w w':=by
 have zz116:=PLift.up @c590;exact c588
set_option maxRecDepth 100000 in
set_option maxHeartbeats 2000000 in
theorem rtake2 (p:PlanM)(u:V6)(n:Int)(w:World)(h1:1≤n)(h0:0≤u.a2)(h2:u.a2+n≤p.size.a2)(h3:p.size.a2≤65536)(hb:0≤p.base.a2∧p.base.a2≤65536):
  Z 108 #[p.val,u.val,I 2,I n] w fun e w'=>
   e= .returned (.tuple #[I (p.base.a2+u.a2),V6.val { u with a2:=u.a2+n },I 0])∧Keeps (· <w.heap.size) w w':=by
 have zz116:=PLift.up @c591;exact c588
set_option maxRecDepth 100000 in
set_option maxHeartbeats 2000000 in
theorem rtake3 (p:PlanM)(u:V6)(n:Int)(w:World)(h1:1≤n)(h0:0≤u.a3)(h2:u.a3+n≤p.size.a3)(h3:p.size.a3≤65536)(hb:0≤p.base.a3∧p.base.a3≤65536):
  Z 108 #[p.val,u.val,I 3,I n] w fun e w'=>
   e= .returned (.tuple #[I (p.base.a3+u.a3),V6.val { u with a3:=u.a3+n },I 0])∧Keeps (· <w.heap.size) w w':=by
 have zz116:=PLift.up @c592;exact c588
set_option maxRecDepth 100000 in
set_option maxHeartbeats 2000000 in
theorem rtake4 (p:PlanM)(u:V6)(n:Int)(w:World)(h1:1≤n)(h0:0≤u.a4)(h2:u.a4+n≤p.size.a4)(h3:p.size.a4≤65536)(hb:0≤p.base.a4∧p.base.a4≤65536):
  Z 108 #[p.val,u.val,I 4,I n] w fun e w'=>
   e= .returned (.tuple #[I (p.base.a4+u.a4),V6.val { u with a4:=u.a4+n },I 0])∧Keeps (· <w.heap.size) w w':=by
 have zz116:=PLift.up @c593;exact c588
end Go.Proofs.YtogdknnkhkjmcaaGreatDoor
