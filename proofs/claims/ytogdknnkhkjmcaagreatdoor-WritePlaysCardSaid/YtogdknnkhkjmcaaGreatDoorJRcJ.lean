/- The reference of layer 12 (write): a state; contracts of Base, Place. -/
import Derived.Test.YtogdknnkhkjmcaaGreatDoorWrQ
namespace Go.Proofs.YtogdknnkhkjmcaaGreatDoor
open Go.RowKit
set_option linter.all false
structure RefS where
 cells:List Int
 W:WrM
def rplaceL (cs:List Int)(id:Int):List SegM→Nat→Int×Int×Bool
 | [],_=>(0,0,false)
 |x::l,i=>if 0≤(tfindL cs x.base id x.docs 0).1 then((i:Int),(tfindL cs x.base id x.docs 0).1,true)else rplaceL cs id l (i+1)
theorem tfindL_range (cs:List Int)(b id:Int):∀n d,-1≤(tfindL cs b id n d).1∧(tfindL cs b id n d).1≤((n+d:Nat):Int)
 |0,d=>⟨Int.le_refl _,by show(-1:Int)≤_;omega⟩
 |n+1,d=>by
  have ih:=tfindL_range cs b id n (d+1);unfold tfindL
  split
  ·exact⟨by show(-1:Int)≤0;omega,by show(0:Int)≤_;omega⟩
  ·split
   ·exact⟨by show(-1:Int)≤(d:Int);omega,by show(d:Int)≤_;omega⟩
   ·exact⟨ih.1,by have:=ih.2;omega⟩
theorem ref12_base (x:SegM)(w:World)(ha:Small x.addr):Calls Tryz.prog 21 #[.agg #[I x.addr,I x.docs,.bool x.sealed]] w fun e w'=>e= .returned (I x.base)∧Keeps (· <w.heap.size) w w':=by
 obtain⟨addr,docs,sealed⟩:=x;have hk:Keeps (· <w.heap.size) w (w.alloc (.cells #[I addr,I docs,.bool sealed] 65)):=(Keeps.refl _ _).alloc (fun b hb=>hb) _;obtain⟨h0,h1⟩:=ha;dsimp only at h0 h1;have Hk:=hid hk;clear hk;refine calls_hide fun R' hR'=>?_
 go_enter Tryz.func21,Tryz.ntmps21
 cases sealed with
 |true=>
  go_wp2_with fail
  exact hR'.out _ _ ⟨rfl,Hk.out⟩
 |false=>
  go_wp2_with fail
  exact hR'.out _ _ ⟨rfl,Hk.out⟩
set_option maxRecDepth 100000 in
set_option maxHeartbeats 4000000 in
theorem ref12_place (cs:List Int)(segs:List SegM)(wt wv u0 u1 u2 u3 u4 u5:Int)(id:Int)(A:Option Addr)(cp:Nat)(A2:Option Addr)(cp2:Nat)(w:World)(K:Nat→Prop)(hb:∀b,K b→b<w.heap.size)(hsl:SlAt w K 1 (.slice A cs.length cp) cs.length (cs.map (Value.int .u32)))(hcn:cs.length≤65536)
  (hs2:SlAt w K 3 (.slice A2 segs.length cp2) segs.length (segs.flatMap SegM.cells)) (hok:∀x∈segs,(-1099511627700≤x.addr∧x.addr≤1099511627700)∧x.docs≤65536) (hn:segs.length≤65536):
  Calls Tryz.prog 57 #[.agg #[.slice A cs.length cp,.slice A2 segs.length cp2,I wt,J wv,I u0,I u1,I u2,I u3,I u4,I u5],J id] w fun e w'=>
   e= .returned (.tuple #[I (rplaceL cs id segs 0).1,I (rplaceL cs id segs 0).2.1,.bool (rplaceL cs id segs 0).2.2])∧Keeps (· <w.heap.size) w w':=by
 obtain⟨t,ht⟩:∃t,t=rplaceL cs id segs 0:=⟨_,rfl⟩;rw[←ht];have hfind:=fun W (hk:Keeps (· <w.heap.size) w W) b n (h1:Small b) (h2:n≤65536)=>ref11_find cs b n id A cp W K (fun b hb9=>Nat.lt_of_lt_of_le (hb b hb9) hk.size) (hsl.keep hk hb) hcn h1 h2;have Hsl:=hid hsl;have Hs2:=hid hs2;have Hok:=hid hok;have Hb:=hid hb;have Ht:=hid ht;have Hfind:=hid hfind;clear hsl hs2 hok hb ht hfind
 refine calls_hide fun R' hR'=>?_
 go_enter Tryz.func57,Tryz.ntmps57
 go_wp2_with fail
 go_loopw[7,15] (fun _ iv wx=>∃(i:Nat),iv=I (i:Int)∧i≤segs.length∧Hid (t=rplaceL cs id (segs.drop i) i)∧Hid (Keeps (· <w.heap.size) w wx)∧Hid (Blk wx w.heap.size [.slice A cs.length cp,.slice A2 segs.length cp2,I wt,J wv,I u0,I u1,I u2,I u3,I u4,I u5])) (fun _ iv _=>segs.length-(intOf iv).toNat)
 case atStart=>exact⟨0,rfl,Nat.zero_le _,Ht,hid ((Keeps.refl _ _).alloc (fun b hb=>hb) _),hid (Blk.new w _ _)⟩
 case round=>
  obtain⟨i,rfl,hile,HT,HK,HS⟩:=hrel
  by_cases hil:i<segs.length
  ·have hilI:(i:Int)<(segs.length:Int):=by omega
   obtain⟨x,hx⟩:∃x,segs[i]? =some x:=⟨_,List.getElem?_eq_getElem hil⟩;obtain⟨b0,o0,rfl,hkb,g1⟩:=SlAt.rec (SegM.len3 segs) Hs2.out i x hx;obtain⟨⟨x0,x1⟩,x2⟩:=Hok.out x (List.mem_of_getElem? hx);have hh0:=Hb.out _ hkb;have hst:t=if 0≤(tfindL cs x.base id x.docs 0).1 then((i:Int),(tfindL cs x.base id x.docs 0).1,true)else rplaceL cs id (segs.drop (i+1)) (i+1):=by
    obtain⟨h9,h8⟩:=List.getElem?_eq_some_iff.1 hx;rw[HT.out,List.drop_eq_getElem_cons h9,h8];rfl
   have hbs:=Small.base ⟨x0,x1⟩;have zz55:=@c330;exact c329
  ·obtain rfl:i=segs.length:=by omega
   have hilI:¬(segs.length:Int)<(segs.length:Int):=by omega
   have hres:t=(0,0,false):=by rw[HT.out,List.drop_length];rfl
   have Hres:=hid hres;clear hres
   go_wp2_with fail
   exact hR'.out _ _ ⟨by first|(rw[Hres.out];done)|(rw[Hres.out];rfl),HK.out⟩
set_option maxRecDepth 100000 in
set_option maxHeartbeats 2000000 in
theorem rtake0 (p:PlanM)(u:V6)(n:Int)(w:World)(h1:1≤n)(h0:0≤u.a0)(h2:u.a0+n≤p.size.a0)(h3:p.size.a0≤65536)(hb:0≤p.base.a0∧p.base.a0≤65536):
  Calls Tryz.prog 108 #[p.val,u.val,I 0,I n] w fun e w'=>
   e= .returned (.tuple #[I (p.base.a0+u.a0),V6.val { u with a0:=u.a0+n },I 0])∧Keeps (· <w.heap.size) w w':=by
 have zz123:=@c619;exact c618
set_option maxRecDepth 100000 in
set_option maxHeartbeats 2000000 in
theorem rtake1 (p:PlanM)(u:V6)(n:Int)(w:World)(h1:1≤n)(h0:0≤u.a1)(h2:u.a1+n≤p.size.a1)(h3:p.size.a1≤65536)(hb:0≤p.base.a1∧p.base.a1≤65536):
  Calls Tryz.prog 108 #[p.val,u.val,I 1,I n] w fun e w'=>
   e= .returned (.tuple #[I (p.base.a1+u.a1),V6.val { u with a1:=u.a1+n },I 0])∧Keeps (· <w.heap.size) w w':=by
 have zz123:=@c620;exact c618
set_option maxRecDepth 100000 in
set_option maxHeartbeats 2000000 in
theorem rtake2 (p:PlanM)(u:V6)(n:Int)(w:World)(h1:1≤n)(h0:0≤u.a2)(h2:u.a2+n≤p.size.a2)(h3:p.size.a2≤65536)(hb:0≤p.base.a2∧p.base.a2≤65536):
  Calls Tryz.prog 108 #[p.val,u.val,I 2,I n] w fun e w'=>
   e= .returned (.tuple #[I (p.base.a2+u.a2),V6.val { u with a2:=u.a2+n },I 0])∧Keeps (· <w.heap.size) w w':=by
 have zz123:=@c621;exact c618
set_option maxRecDepth 100000 in
set_option maxHeartbeats 2000000 in
theorem rtake3 (p:PlanM)(u:V6)(n:Int)(w:World)(h1:1≤n)(h0:0≤u.a3)(h2:u.a3+n≤p.size.a3)(h3:p.size.a3≤65536)(hb:0≤p.base.a3∧p.base.a3≤65536):
  Calls Tryz.prog 108 #[p.val,u.val,I 3,I n] w fun e w'=>
   e= .returned (.tuple #[I (p.base.a3+u.a3),V6.val { u with a3:=u.a3+n },I 0])∧Keeps (· <w.heap.size) w w':=by
 have zz123:=@c622;exact c618
set_option maxRecDepth 100000 in
set_option maxHeartbeats 2000000 in
theorem rtake4 (p:PlanM)(u:V6)(n:Int)(w:World)(h1:1≤n)(h0:0≤u.a4)(h2:u.a4+n≤p.size.a4)(h3:p.size.a4≤65536)(hb:0≤p.base.a4∧p.base.a4≤65536):
  Calls Tryz.prog 108 #[p.val,u.val,I 4,I n] w fun e w'=>
   e= .returned (.tuple #[I (p.base.a4+u.a4),V6.val { u with a4:=u.a4+n },I 0])∧Keeps (· <w.heap.size) w w':=by
 have zz123:=@c623;exact c618
theorem own_any {w:World}{B E sz n:Nat}{v:Value}{xs:List Value}(h:w.ownsRow B E sz v n xs):w.ownsRow 0 E sz v n xs:=
 ⟨h.1,h.2.imp (fun h=>h) (fun⟨a,b,c,d⟩=>⟨a,b,c,d.1,Nat.zero_le _,d.2.2⟩)⟩
theorem storesC_snoc (a:Nat):∀(L:List Int) (cs:List Int) (k:Nat) (c:Int),storesC cs a (L++[c]) k=(storesC cs a L k).set (a+2+(k+L.length)) c
 | [],cs,k,c=>rfl
 |d::L,cs,k,c=>by
  show storesC (cs.set (a+2+k) d) a (L++[c]) (k+1)=(storesC (cs.set (a+2+k) d) a L (k+1)).set _ _;rw[storesC_snoc a L _ (k+1) c,List.length_cons,show k+1+L.length=k+(L.length+1) by omega]
theorem storesC_take {a:Nat}{L:List Int}{cs:List Int}{k:Nat}{c:Int}(h:L[k]? =some c):storesC cs a (L.take (k+1)) 0=(storesC cs a (L.take k) 0).set (a+2+k) c:=by
 have hk:=(List.getElem?_eq_some_iff.1 h).1;rw[List.take_add_one,h,Option.toList_some,storesC_snoc,List.length_take,Nat.min_eq_left (by omega),Nat.zero_add]
set_option maxRecDepth 100000 in
set_option maxHeartbeats 4000000 in
theorem ref10_put (cs:List Int)(p:PlanM)(u:V6)(s sl a:Nat)(key:ByteArray)(A:Option Addr)(cp:Nat)(w:World)(K:Nat→Prop)(hb:∀b,K b→b<w.heap.size)(hsl:SlAt w K 1 (.slice A cs.length cp) cs.length (cs.map (Value.int .u32)))(hn:cs.length≤65536)
  (ht:key.size≤1000) (h0:0≤u.a4) (h2:u.a4+(2+(((key.size+3)/4:Nat):Int))≤p.size.a4) (h3:p.size.a4≤65536) (hpb:p.base.a4+u.a4=(a:Int)) (hb0:0≤p.base.a4∧p.base.a4≤65536) (ha:a+2+(key.size+3)/4≤cs.length) (hs:s+sl<cs.length):
  Calls Tryz.prog 93 #[.slice A cs.length cp,p.val,u.val,I (s:Int),I (sl:Int),.string key] w fun e w'=>∃nb,
   e= .returned (.tuple #[.slice (some ⟨nb,0,none⟩) cs.length cs.length,I (a:Int),V6.val { u with a4:=u.a4+(2+(((key.size+3)/4:Nat):Int)) },I 0])∧w.heap.size≤nb∧
    Blk w' nb ((putC cs a (s+sl) key.size (packC (bsL key))).map (Value.int .u32))∧Keeps (· <w.heap.size) w w':=by
 have hpl:(packC (bsL key)).length=(key.size+3)/4:=by rw[packC_len,bsL_len]
 obtain⟨C,hC⟩:∃C,C=packC (bsL key):=⟨_,rfl⟩;rw[←hC]at hpl;have hcl:=fun W=>ref7_cells key (by omega) W
 rw[←hC]at hcl;rw[←hpl]at h2 ha ⊢;rw[←hC];have htk:=fun W=>rtake4 p u (2+(C.length:Int)) W (by omega) h0 h2 h3 hb0
 rw[hpb]at htk;have hcl250:C.length≤251:=by omega
 have hrg:=packC_range (bsL_range key);rw[←hC]at hrg;obtain⟨n,hks⟩:∃n,n=key.size:=⟨_,rfl⟩;rw[←hks]at ht ⊢;have hks2:(key.size:Int)=(n:Int):=by rw[hks]
 clear hC hpl hpb hks;obtain⟨u0,u1,u2,u3,u4,u5⟩:=u;obtain⟨hb00,hb01⟩:=hb0;dsimp only at*;have h2n:u4+(2+(C.length:Int))≤p.size.a4:=h2;have hw1:IntKind.i64.wrap (2+(C.length:Int))=2+(C.length:Int):=IntWalk.i64_in _ (by omega)
 have hn0:0<cs.length:=by omega
 have Hcl:=hid hcl;have Htk:=hid htk;have Hsl:=hid hsl;have Hb:=hid hb;have Hrg:=hid hrg;have H2:=hid h2;have H2n:=hid h2n;clear hcl htk hsl hb hrg h2 h2n;unfold PlanM.val V6.val at*;dsimp only at*;refine calls_hide fun R' hR'=>?_
 go_enter Tryz.func93,Tryz.ntmps93
 go_wp2_with fail
 refine calls_gen (fun W=>Blk W w.heap.size p.flat∧Blk W (w.heap.size+1) [I u0,I u1,I u2,I u3,I u4,I u5]∧Blk W (w.heap.size+1+1) [I 0,I 0,I 0,I 0,I 0,I 0]∧Keeps (· <w.heap.size) w W) ⟨?_,?_,?_,?_⟩ (fun W0 HW=>?_)
 ·exact((Blk.new w p.flat 42).alloc _).alloc _
 ·exact bA
 ·exact bA
 ·exact kA
 obtain⟨hA0,hA1,hA2,hkA⟩:=HW;generalize hBB:w.heap.size=B at*;refine(Hcl.out W0).mono ?_;rintro e w1 ⟨v,rfl,hv1,hk1⟩;obtain⟨CA,cc,rfl⟩:=ownB_form hv1;have hv1:=own_any hv1;have hB0:=hA0.keep hk1 hA0.lt;have hB1:=hA1.keep hk1 hA1.lt;have hB2:=hA2.keep hk1 hA2.lt;have hkB:Keeps (· <B) w w1:=hkA.trans (hk1.mono fun b hb=>by have:=hkA.size;omega)
 clear hA0 hA1 hA2 hkA hk1 Hcl;have hpc:=hB0;unfold PlanM.flat at hpc;obtain⟨g0,g1,g2,g3,g4,g5,g6,g7,g8,g9,g10,g11,g12,g13,g14⟩:=hpc.c15;obtain⟨y0,y1,y2,y3,y4,y5⟩:=hB1.c6;clear hpc;have HB0:=hid hB0;have HB1:=hid hB1;have HB2:=hid hB2;have HkB:=hid hkB;have Hv1:=hid hv1;have HBB:=hid hBB;clear hB0 hB1 hB2 hkB hv1 hBB
 go_wp2_with fail
 refine(Htk.out w1).mono ?_;rintro e w2 ⟨rfl,hk2⟩;have hC2:=HB2.out.keep hk2 HB2.out.lt;have hv2:=own_of_keep Hv1.out hk2 fun b hb=>own_ne Hv1.out b hb;have hkC:Keeps (· <B) w w2:=HkB.out.trans (hk2.mono fun b hb=>by have:=HB2.out.lt;omega)
 clear g0 g1 g2 g3 g4 g5 g6 g7 g8 g9 g10 g11 g12 g13 g14 y0 y1 y2 y3 y4 y5 HB0 HB1 HB2 HkB Hv1 hk2 Htk;have HC2:=hid hC2;have Hv2:=hid hv2;have HkC:=hid hkC;clear hC2 hv2 hkC
 go_wp2_with fail
 refine calls_gen (fun W=>Blk W w2.heap.size [I u0,I u1,I u2,I u3,I (u4+(2+(C.length:Int))),I u5]∧Blk W (B+1+1) [I 0,I 0,I 0,I 0,I 0,I 0]∧W.ownsRow 0 32 1 (.slice CA C.length cc) C.length (C.map (Value.int .u32))∧Keeps (· <B) w W∧w2.heap.size<W.heap.size)
  ⟨Blk.new w2 _ _,HC2.out.alloc _,own_of_keep Hv2.out ((Keeps.refl (· <w2.heap.size) w2).alloc (fun b hb=>hb) _) (fun b hb=>own_ne Hv2.out b hb),HkC.out.trans (((Keeps.refl (· <w2.heap.size) w2).alloc (fun b hb=>hb) _).mono fun b hb=>by have:=HC2.out.lt;omega),by simp⟩ (fun w3 HW=>?_)
 obtain⟨hU3,hC3,hv3,hk3,hz3⟩:=HW;have hBU:B+1+1<w2.heap.size:=HC2.out.lt;generalize hUB:w2.heap.size=UB at*;clear HC2 Hv2 HkC;refine(ref01_copy cs A cp w3 K (fun b hb=>by have h9:b<B:=Hb.out b hb;omega) (Hsl.out.keep hk3 (fun b hb=>Hb.out b hb)) hn0 hn).mono ?_
 rintro e w4 ⟨rfl,hN4,hk4⟩;have hU4:=hU3.keep hk4 hU3.lt;have hC4:=hC3.keep hk4 hC3.lt;have hv4:=own_of_keep hv3 hk4 fun b hb=>own_ne hv3 b hb;have hK4:Keeps (· <B) w w4:=hk3.trans (hk4.mono fun b hb=>by omega)
 have hvn:∀b,(Value.slice CA C.length cc).ownBlock=some b→b<w3.heap.size:=fun b hb=>own_ne hv3 b hb;clear hU3 hC3 hv3 hk3 hk4;generalize hNB:w3.heap.size=NB at*;have hl0:(cs.map (Value.int .u32)).length=cs.length:=List.length_map ..;have hw2:IntKind.i64.wrap ((a:Int)+1)=((a+1:Nat):Int):=by rw[IntWalk.i64_in _ (by omega)];omega
 have hw3:IntKind.u32.wrap (n:Int)=(n:Int):=IntWalk.u32_in _ (by omega)
 have zz175:=@c814;exact c813
end Go.Proofs.YtogdknnkhkjmcaaGreatDoor
