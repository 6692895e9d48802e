/- Lemmas on the programs that the statement reaches. -/
import Derived.Test.YtogdknnkhkjmcaaGreatDoorKWrM
namespace Go.Proofs.YtogdknnkhkjmcaaGreatDoor
open Go.RowKit
set_option linter.all false
theorem cls_at0 {p:PlanM}{X Y z a:Int}{n i:Nat}(hX:p.bK 0=X)(hY:p.sK 0=Y)(hn:Y=4*(n:Int))(hz:z=X+4*(i:Int))(h1:z≤a)(h2:a<z+4)(h3:z<X+Y)(hno:∀j,j<0→¬p.has j a):p.cls a=(((0:Nat):Int),a-z):=by
 rw[PlanM.cls_at p a 0 (by omega) hno (by unfold PlanM.has;rw[hX,hY];omega)]
 refine Prod.ext rfl ?_;show(a-p.bK 0)%4=a-z;rw[hX];omega
theorem cls_no0 {p:PlanM}{X Y z a:Int}{n i:Nat}(hX:p.bK 0=X)(hY:p.sK 0=Y)(hn:Y=4*(n:Int))(hz:z=X+4*(i:Int))(h3:¬z<X+Y)(hs:∀j:Nat,j<i→¬(X+4*(j:Int)≤a∧a<X+4*(j:Int)+4)):¬p.has 0 a:=by
 intro h;unfold PlanM.has at h;rw[hX,hY]at h;exact hs ((a-X)/4).toNat (by omega) (by omega)
theorem cls_at1 {p:PlanM}{X Y z a:Int}{n i:Nat}(hX:p.bK 1=X)(hY:p.sK 1=Y)(hn:Y=16*(n:Int))(hz:z=X+16*(i:Int))(h1:z≤a)(h2:a<z+16)(h3:z<X+Y)(hno:∀j,j<1→¬p.has j a):p.cls a=(((1:Nat):Int),a-z):=by
 rw[PlanM.cls_at p a 1 (by omega) hno (by unfold PlanM.has;rw[hX,hY];omega)]
 refine Prod.ext rfl ?_;show(a-p.bK 1)%16=a-z;rw[hX];omega
theorem cls_no1 {p:PlanM}{X Y z a:Int}{n i:Nat}(hX:p.bK 1=X)(hY:p.sK 1=Y)(hn:Y=16*(n:Int))(hz:z=X+16*(i:Int))(h3:¬z<X+Y)(hs:∀j:Nat,j<i→¬(X+16*(j:Int)≤a∧a<X+16*(j:Int)+16)):¬p.has 1 a:=by
 intro h;unfold PlanM.has at h;rw[hX,hY]at h;exact hs ((a-X)/16).toNat (by omega) (by omega)
theorem cls_at2 {p:PlanM}{X Y z a:Int}{n i:Nat}(hX:p.bK 2=X)(hY:p.sK 2=Y)(hn:Y=64*(n:Int))(hz:z=X+64*(i:Int))(h1:z≤a)(h2:a<z+64)(h3:z<X+Y)(hno:∀j,j<2→¬p.has j a):p.cls a=(((2:Nat):Int),a-z):=by
 rw[PlanM.cls_at p a 2 (by omega) hno (by unfold PlanM.has;rw[hX,hY];omega)]
 refine Prod.ext rfl ?_;show(a-p.bK 2)%64=a-z;rw[hX];omega
theorem cls_no2 {p:PlanM}{X Y z a:Int}{n i:Nat}(hX:p.bK 2=X)(hY:p.sK 2=Y)(hn:Y=64*(n:Int))(hz:z=X+64*(i:Int))(h3:¬z<X+Y)(hs:∀j:Nat,j<i→¬(X+64*(j:Int)≤a∧a<X+64*(j:Int)+64)):¬p.has 2 a:=by
 intro h;unfold PlanM.has at h;rw[hX,hY]at h;exact hs ((a-X)/64).toNat (by omega) (by omega)
theorem cls_at3 {p:PlanM}{X Y z a:Int}{n i:Nat}(hX:p.bK 3=X)(hY:p.sK 3=Y)(hn:Y=256*(n:Int))(hz:z=X+256*(i:Int))(h1:z≤a)(h2:a<z+256)(h3:z<X+Y)(hno:∀j,j<3→¬p.has j a):p.cls a=(((3:Nat):Int),a-z):=by
 rw[PlanM.cls_at p a 3 (by omega) hno (by unfold PlanM.has;rw[hX,hY];omega)]
 refine Prod.ext rfl ?_;show(a-p.bK 3)%256=a-z;rw[hX];omega
theorem cls_no3 {p:PlanM}{X Y z a:Int}{n i:Nat}(hX:p.bK 3=X)(hY:p.sK 3=Y)(hn:Y=256*(n:Int))(hz:z=X+256*(i:Int))(h3:¬z<X+Y)(hs:∀j:Nat,j<i→¬(X+256*(j:Int)≤a∧a<X+256*(j:Int)+256)):¬p.has 3 a:=by
 intro h;unfold PlanM.has at h;rw[hX,hY]at h;exact hs ((a-X)/256).toNat (by omega) (by omega)
set_option maxRecDepth 100000 in
set_option maxHeartbeats 8000000 in
theorem class_ref (p:PlanM)(P:Pools)(hP:P.ok)(hl:p.lays P)(a:Int)(w:World)(ha: -9223372036854775808≤a∧a≤9223372036854775807):
  Z 92 #[p.val,I a] w fun e w'=>e= .returned (.tuple #[I (p.cls a).1,I (p.cls a).2])∧Keeps (· <w.heap.size) w w':=by
 obtain⟨ha0,ha1⟩:=ha;have HWF:=hid (hl.wf hP);have HS:=hid hl.s;have HCN:=hid (p.cls_none a);clear hl hP;refine calls_hide fun R' hR'=>?_;unfold PlanM.val
 go_enter Tryz.func92,Tryz.ntmps92
 go_wp2_with fail
 refine wp_gen (fun W=>Blk W w.heap.size p.flat∧Keeps (· <w.heap.size) w W) ⟨Blk.new w p.flat _,(Keeps.refl _ _).alloc (fun b hb=>hb) _⟩ ?_;rintro w0 ⟨hb0,hk0⟩;generalize hB:w.heap.size=B at*;have Hb0:=hid hb0;have Hk0:=hid hk0;have HB:=hid hB;clear hb0 hk0 hB
 go_loopw[6] (fun vi wr=>∃k:Nat,vi=I (k:Int)∧k≤4∧Hid (Blk wr B p.flat∧Keeps (· <B) w wr∧∀j,j<k→¬p.has j a)) (fun i _=>4-(intOf i).toNat)
 case atStart=>exact⟨0,rfl,by omega,hid ⟨Hb0.out,Hk0.out,fun j h=>by omega⟩⟩
 case round=>
  clear Hb0 Hk0;obtain⟨k,rfl,hk,HH⟩:=hrel;obtain⟨hblk,hkp,hno⟩:=HH.out;clear HH;have Hkp:=hid hkp;have Hno:=hid hno;clear hkp hno
  by_cases hk4:k<4
  ·have hcases:k=0∨k=1∨k=2∨k=3:=by omega
   clear hk hk4
   rcases hcases with rfl|rfl|rfl|rfl
   ·have c1:=hblk.cell 0;have zz120:=PLift.up @c611;exact c609
   ·have c1:=hblk.cell 1;have zz121:=PLift.up @c614;exact c612
   ·have c1:=hblk.cell 2;have zz122:=PLift.up @c617;exact c615
   ·have c1:=hblk.cell 3;have zz123:=PLift.up @c620;exact c618
  ·obtain rfl:k=4:=by omega
   clear hblk
   go_wp2_with fail
   refine hR'.out _ _ ⟨?_,?_⟩
   ·rw[HCN.out (fun j hj=>Hno.out j hj)];rfl
   ·exact c10
theorem ownsRow_set6 {w:World}{B E sz n b:Nat}{v:Value}{xs:List Value}(h:w.ownsRow B E sz v n xs)(hb:v.ownBlock≠some b)(v0 v1 v2 v3 v4 v5:Value):
  ((((((w.setCell ⟨b,0,none⟩ v0).setCell ⟨b,1,none⟩ v1).setCell ⟨b,2,none⟩ v2).setCell ⟨b,3,none⟩ v3).setCell ⟨b,4,none⟩ v4).setCell ⟨b,5,none⟩ v5).ownsRow B E sz v n xs:=
 ownsRow_setCell_other (ownsRow_setCell_other (ownsRow_setCell_other (ownsRow_setCell_other (ownsRow_setCell_other (ownsRow_setCell_other h (a:=⟨b,0,none⟩) hb v0) (a:=⟨b,1,none⟩) hb v1) (a:=⟨b,2,none⟩) hb v2) (a:=⟨b,3,none⟩) hb v3) (a:=⟨b,4,none⟩) hb v4) (a:=⟨b,5,none⟩) hb v5
theorem RM.set6 {w:World}{K:Nat→Prop}{r m c:Nat}{s:St}(h:RM w K r m c s){b:Nat}(v0 v1 v2 v3 v4 v5:Value)(hb:K b):
  RM ((((((w.setCell ⟨b,0,none⟩ v0).setCell ⟨b,1,none⟩ v1).setCell ⟨b,2,none⟩ v2).setCell ⟨b,3,none⟩ v3).setCell ⟨b,4,none⟩ v4).setCell ⟨b,5,none⟩ v5) K r m c s:=
 (((((h.setK (a:=⟨b,0,none⟩) hb v0).setK (a:=⟨b,1,none⟩) hb v1).setK (a:=⟨b,2,none⟩) hb v2).setK (a:=⟨b,3,none⟩) hb v3).setK (a:=⟨b,4,none⟩) hb v4).setK (a:=⟨b,5,none⟩) hb v5
set_option maxRecDepth 100000 in
set_option maxHeartbeats 4000000 in
theorem write_place1 {w:World}{K:Nat→Prop}{r m c:Nat}{s:St}(p:PlanM)(hp:p.Wf)(u:V6)(hu:UIn p u)(s0 d:Int)(x:TokI)(all:List TermM)(A:Option Addr)(cp:Nat)(t0:TermM)
  (h:RM w (fun b=>K b∨(Value.slice A all.length cp).ownBlock=some b) r m c s) (hK0:K 0) (hT:PTab w) (h4:p.size.a4≤65536) (hb4:0≤p.base.a4∧p.base.a4≤65536) (hn:1≤p.slots∧p.slots≤65536) (hs0:0≤s0∧s0≤65536)
  (hx:(0≤x.1∧x.1≤255)∧x.2.1.size≤900) (hall:∀t∈all,U32 t.tl) (hl:all.length≤65536) (hO:TermOwn w K (.slice A all.length cp) all) (h0:all[keyIx (keyB x.1 x.2.1) all]? =some t0):
  Z 55 #[.pointer (some ⟨r,0,none⟩),p.val,u.val,I s0,I d,.agg (tokI x).toArray,.slice A all.length cp] w fun e w'=>
   e= .returned ((wordT p s0 p.slots.toNat d x all u).exec s).1.2.val∧RM w' (fun b=>K b∨(Value.slice A all.length cp).ownBlock=some b) r m c ((wordT p s0 p.slots.toNat d x all u).exec s).2∧
    TermOwn w' K (.slice A all.length cp) ((wordT p s0 p.slots.toNat d x all u).exec s).1.1∧Keeps K w w':=by
 obtain⟨xf,xt,xp⟩:=x;obtain⟨⟨hx0,hx1⟩,hx2⟩:=hx;dsimp only at hx0 hx1 hx2 h0;have hkey:=fun W=>pack_key xf xt ⟨hx0,hx1⟩ (by omega) W
 have hks:=keyB_size xf xt;have hlt0:=h.lt;generalize hres:(wordT p s0 p.slots.toNat d (xf,xt,xp) all u).exec s=res;have hres':(match all[keyIx (keyB xf xt) all]? with
 |none=> .ret (all,u)
 |some t=>(recT p s0 p.slots.toNat t u).bind fun q=>(postPutT p q.2 t.tl (wordOf d xp)).bind fun y=> .store q.1 y.1 (.ret (all.set (keyIx (keyB xf xt) all) ⟨t.key,q.1,y.1,t.cnt⟩,y.2)):Tree (List TermM×V6)).exec s=res:=hres
 rw[h0]at hres';dsimp only at hres';clear hres;obtain⟨g,rfl,-⟩:=own_rec TermM.len4 hO.1 h0;have htk:t0.key=keyB xf xt:=key_same (keyIx_hit h0);have htl:=hall t0 (List.mem_of_getElem? h0);have Hkey:=hid hkey;have H:=hid h;have HO:=hid hO;have H0:=hid h0;have HT:=hid hT;have Hp:=hid hp;have Hu:=hid hu;have Hlt0:=hid hlt0;have Hres':=hid hres';have HK0:=hid hK0;have Htk:=hid htk
 have Htl:=hid htl;clear hkey h hO h0 hT hp hu hlt0 hres' hK0 htk htl;clear hall;refine calls_hide fun R' hR'=>?_;unfold PlanM.val V6.val tokI at*
 go_enter Tryz.func55,Tryz.ntmps55
 go_wp2_with fail
 refine calls_gen (fun W=>Blk W w.heap.size p.flat∧Blk W (w.heap.size+1) u.list∧Blk W (w.heap.size+1+1) (tokI (xf,xt,xp))∧Blk W (w.heap.size+1+1+1) zero6.list∧Keeps (· <w.heap.size) w W) ⟨?_,?_,?_,?_,?_⟩ (fun W0 HW=>?_)
 ·have h0:=Blk.new w p.flat 42;exact((h0.alloc _).alloc _).alloc _
 ·unfold V6.list;exact bA
 ·unfold tokI;exact bA
 ·unfold V6.list zero6;exact bA
 ·exact kA
 obtain⟨hA0,hA1,hA2,hA3,hkA⟩:=HW;refine(Hkey.out W0).mono ?_;rintro e w1 ⟨ky,rfl,hky,hk1⟩;obtain rfl:=key_of ⟨hx0,hx1⟩ hky;generalize keyB xf xt=key at*;have hl3:=hA3.lt;have hB0:=hA0.keep hk1 hA0.lt;have hB1:=hA1.keep hk1 hA1.lt;have hB2:=hA2.keep hk1 hA2.lt;have hB3:=hA3.keep hk1 hA3.lt;have hkw:=hkA.trans (hk1.mono fun b hb=>by have:=hkA.size;omega)
 have hz:=hk1.size;clear hA0 hA1 hA2 hA3 hkA hk1 hky Hkey;generalize hBB:w.heap.size=B at*;have hkb:B+1+1+1<w1.heap.size:=by omega
 have HB0:=hid hB0;have HB1:=hid hB1;have HB2:=hid hB2;have HB3:=hid hB3;have Hkw:=hid hkw;have HBB:=hid hBB;clear hB0 hB1 hB2 hB3 hkw hBB;clear hl3 hz
 go_wp2_with fail
 have hkc:=Blk.new w1 [.string key] 9;have hka:Keeps (· <w1.heap.size) w1 (w1.alloc (.cells #[.string key] 9)):=(Keeps.refl _ _).alloc (fun b hb=>hb) _;have hsz:(w1.alloc (.cells #[.string key] 9)).heap.size=w1.heap.size+1:=World.size_alloc _ _;generalize w1.alloc (.cells #[.string key] 9)=W1 at*;have hkw1:=Hkw.out.trans (hka.mono fun b hb=>by omega)
 have hO1:=own_of_keep HO.out.1 hkw1 fun b hb=>Hlt0.out b (Or.inr hb);refine(index_func all _ cp key t0 w1.heap.size W1 (hkc.cell 0) (by omega) hl hO1 H0.out).mono ?_
 rintro e w2 ⟨rfl,hk2⟩;have hP1:P1 w w2 K r m c B w2.heap.size w1.heap.size (some ⟨g,0,none⟩) all.length cp p u (xf,xt,xp) key all s:=by
  have hk3:=hka.trans (hk2.mono fun b hb=>by omega)
  have hk4:=Hkw.out.trans (hk3.mono fun b hb=>by omega)
  have hs2:=hk2.size;have hlt1:∀b,K b∨(Value.slice (some ⟨g,0,none⟩) all.length cp).ownBlock=some b→b<B:=Hlt0.out;refine⟨?_,⟨own_of_keep HO.out.1 hk4 fun b hb=>hlt1 b (Or.inr hb),HO.out.2⟩,hk4.mono fun b hb=>hlt1 b (Or.inl hb),HB0.out.keep hk3 HB0.out.lt,HB1.out.keep hk3 HB1.out.lt,HB2.out.keep hk3 HB2.out.lt,HB3.out.keep hk3 HB3.out.lt,hkc.keep hk2 (by omega),rfl,⟨by omega,by omega⟩,hlt1⟩
  have:=H.out.moreB (w':=w2) (by rw[HBB.out];exact hk4)
  rwa [HBB.out]at this
 clear HB0 HB1 HB2 HB3 Hkw hkc hka hsz hkw1 hO1 hk2;have hkl:w1.heap.size<w2.heap.size:=hP1.h0.2;generalize w1.heap.size=kb at*;generalize hB':w2.heap.size=B' at*;have HP1:=hid hP1;have HB':=hid hB';clear hP1 hB';have a1:w2.cell? ⟨g,keyIx key all*4+1,none⟩=some (I t0.recd):=by
  obtain⟨g',e,hc⟩:=own_rec TermM.len4 HP1.out.own.1 H0.out;injection e with e;injection e with e;subst e
  exact hc 1 _ (by decide) rfl
 obtain⟨tk,tr,tt,tc⟩:=t0;have a1:w2.cell? ⟨g,keyIx key all*4+1,none⟩=some (I tr):=a1;have hjl:keyIx key all<all.length:=(List.getElem?_eq_some_iff.1 H0.out).1;generalize keyIx key all=j at*;have hjI:(j:Int)<(all.length:Int):=by omega
 go_upto_if 35 with fail
 go_cut[16,17,18]from 36 to 58 (fun v _ _ wx=>∃(rc:Int) (u':V6) (s':St),v= .pointer (some ⟨g,j*4,none⟩)∧Hid ((recT p s0 p.slots.toNat ⟨tk,tr,tt,tc⟩ u).exec s=((rc,u'),s'))∧Hid (UIn p u')∧Hid (P1 w wx K r m c B B' kb (some ⟨g,0,none⟩) all.length cp p u' (xf,xt,xp) key (all.set j ⟨tk,rc,tt,tc⟩) s'))
 case first=>
  by_cases hr:tr=0
  ·subst hr;have hs0n:((p.slots.toNat:Nat):Int)=p.slots:=by omega
   have hfind:=fun W (hW:RM W (fun b=>(K b∨(Value.slice (some ⟨g,0,none⟩) all.length cp).ownBlock=some b)∨(B≤b∧b<B')) r m c s)=>dict_find hW s0 p.slots.toNat key hs0 (by omega) (by omega)
   rw[hs0n]at hfind;have hfr:=findK_range s0 p.slots.toNat key (by omega) s
   have hfind:∀W,RM W (fun b=>(K b∨(Value.slice (some ⟨g,0,none⟩) all.length cp).ownBlock=some b)∨(B≤b∧b<B')) r m c s→Z 75 #[.pointer (some ⟨r,0,none⟩),I s0,I p.slots,.string key] W fun e w'=>
    e= .returned (.tuple #[I ((findK s0 p.slots.toNat key).exec s).1.1,I ((findK s0 p.slots.toNat key).exec s).1.2])∧RM w' (fun b=>(K b∨(Value.slice (some ⟨g,0,none⟩) all.length cp).ownBlock=some b)∨(B≤b∧b<B')) r m c ((findK s0 p.slots.toNat key).exec s).2∧Keeps (fun b=>(K b∨(Value.slice (some ⟨g,0,none⟩) all.length cp).ownBlock=some b)∨(B≤b∧b<B')) W w':=hfind
   have hrecT:(recT p s0 p.slots.toNat ⟨key,0,tt,tc⟩ u).exec s=(dictPutT p u s0 ((findK s0 p.slots.toNat key).exec s).1.2 key).exec ((findK s0 p.slots.toNat key).exec s).2:=by
    unfold recT;rw[if_pos rfl,Tree.exec_bind]
   obtain rfl:tk=key:=Htk.out;generalize (findK s0 p.slots.toNat tk).exec s=fr at*;obtain⟨⟨rc,sl⟩,s1⟩:=fr;dsimp only at hfr hfind hrecT;have hc0:=HP1.out.b0;unfold PlanM.flat at hc0;obtain⟨c0,c1,c2,c3,c4,c5,c6,c7,c8,c9,c10,c11,c12,c13,c14⟩:=hc0.c15;have k0:=HP1.out.bk.cell 0;simp only[List.getElem?_cons_zero]at k0;clear hc0 hs0n;have Hfind:=hid hfind;have HrecT:=hid hrecT
   clear hfind hrecT
   go_wp2_with fail
   refine(Hfind.out _ HP1.out.rm).mono ?_;rintro e w3 ⟨rfl,hr3,hk3⟩;have hP3:=HP1.out.keep hr3 hk3;have HD:=hid (dict_put_any hP3.rm p u s0 sl tk (by omega) Hu.out h4 hb4 hs0 (by omega))
   have hu':=dictPutT_ok (p:=p) (u:=u) (s0:=s0) (sl:=sl) (t:=tk) (s:=s1) Hu.out;clear hr3 hk3 k0 c0 c1 c2 c3 c4 c5 c6 c7 c8 c9 c10 c11 c12 c13 c14 Hfind a1;have hc0:=hP3.b0;unfold PlanM.flat at hc0;obtain⟨c0,c1,c2,c3,c4,c5,c6,c7,c8,c9,c10,c11,c12,c13,c14⟩:=hc0.c15;have hc1:=hP3.b1;unfold V6.list at hc1;obtain⟨y0,y1,y2,y3,y4,y5⟩:=hc1.c6;have k0:=hP3.bk.cell 0
   simp only[List.getElem?_cons_zero]at k0;clear hc0 hc1;generalize (dictPutT p u s0 sl tk).exec s1=fr at*;obtain⟨⟨ad,u'⟩,s2⟩:=fr;unfold PlanM.val V6.val at HD;dsimp only at HD hu';have HP3:=hid hP3;have Hu':=hid hu';clear hP3 hu'
   go_wp2_with fail
   refine HD.out.mono ?_;rintro e w4 ⟨⟨ex,rfl⟩,hr4,hk4⟩;have hP4:=HP3.out.keep hr4 hk4;clear hr4 hk4 k0 c0 c1 c2 c3 c4 c5 c6 c7 c8 c9 c10 c11 c12 c13 c14 y0 y1 y2 y3 y4 y5 HD HP3;obtain⟨v0,v1,v2,v3,v4,v5⟩:=u';have hP5:=(hP4.set (j:=1) (a':=⟨tk,ad,tt,tc⟩) (v:=I ad) H0.out (by decide) rfl).setU v0 v1 v2 v3 v4 v5
   have hc1:=hP4.b1;have zz62:=PLift.up @c354;exact c353
  ·have hrecT:(recT p s0 p.slots.toNat ⟨tk,tr,tt,tc⟩ u).exec s=((tr,u),s):=by
    unfold recT;rw[if_neg hr];rfl
   have hset:all.set j ⟨tk,tr,tt,tc⟩=all:=by
    obtain⟨h1,h2⟩:=List.getElem?_eq_some_iff.1 H0.out;rw[←h2];exact List.set_getElem_self h1
   have HrecT:=hid hrecT;have Hset:=hid hset;clear hrecT hset
   go_wp2_with fail
   go_meet
   case rel=>exact⟨tr,u,s,rfl,HrecT,Hu,hid (by rw[Hset.out];exact HP1.out)⟩
 case rest=>
  obtain⟨rc,u',s1,rfl,HX,HU,HP⟩:=hcut;have hc2:=HP.out.b2;unfold tokI at hc2;obtain⟨z0,z1,z2⟩:=hc2.c3;clear hc2 a1;have hjs:(all.set j ⟨tk,rc,tt,tc⟩)[j]? =some ⟨tk,rc,tt,tc⟩:=by rw[List.getElem?_set_self hjl]
  have Hjs:=hid hjs;clear hjs
  go_upto_region 7 with(go_at_call 82;refine(pack_word d xp _).mono ?_;rintro e w5 ⟨⟨ex,rfl⟩,rfl⟩)
  generalize hwd:wordOf d xp=wd at*;have hwu:U32 wd:=by rw[←hwd];exact wordOf_in d xp
  have Hwd:=hid hwd;have Hwu:=hid hwu;clear hwd hwu;refine wp_region_held_drew (S:=fun _=>True) (by kernel_rfl) trivial (fun hHeld0=>?_)
  have hTr:(fun _:World=>True) w5.drew:=trivial;refine wpAnyH_take (i:=0) (oi:=_) (v:=?vr0) rfl (by kernel_rfl) (by kernel_rfl) (by kernel_rfl) (fun _ _ _ h=>h) (Or.inl ⟨by rfl,?yr0⟩) (by assumption) ?qr0
  case yr0=>(intro w hSw;(try dsimp only at hSw);(try unfold S7 at hSw);(try obtain⟨q0,q1,q2,q3,q4,q5,q6,q7,q8,q9,q10,q11,q12,q13,q14,q15,q16,q17,q18,q19,q20,q21⟩:=hSw);go_simp;try with_reducible rfl)
  simp only[Act.put,List.setIfInBounds_toArray,List.set_cons_zero,List.set_cons_succ];refine wpAnyH_headC (S:=S7 B g (j*4+2) p u' tt) 10 9 [0] #[true,false,false,false,false,false,false,false,false,false] (by kernel_rfl) (by kernel_rfl) (by kernel_rfl) (fun _ _=>trivial) ?_
  simp only[List.take_succ_cons,List.take_zero];have hPd:=HP.out.drew;have hHeld:=hPd.s7 Hjs.out;dsimp only at hHeld;have HPd:=hid hPd;clear hPd;refine wpAnyH_take (i:=1) (oi:=_) (v:=?vr1) rfl (by kernel_rfl) (by kernel_rfl) (by kernel_rfl) (fun _ _ _ h=>h) (Or.inl ⟨by rfl,?yr1⟩) (by assumption) ?qr1
  case yr1=>(intro w hSw;(try dsimp only at hSw);(try unfold S7 at hSw);(try obtain⟨q0,q1,q2,q3,q4,q5,q6,q7,q8,q9,q10,q11,q12,q13,q14,q15,q16,q17,q18,q19,q20,q21⟩:=hSw);go_simp;try with_reducible rfl)
  simp only[Act.put,List.setIfInBounds_toArray,List.set_cons_zero,List.set_cons_succ];refine wpAnyH_take (i:=2) (oi:=_) (v:=?vr2) rfl (by kernel_rfl) (by kernel_rfl) (by kernel_rfl) (fun _ _ _ h=>h) (Or.inl ⟨by rfl,?yr2⟩) (by assumption) ?qr2
  case yr2=>(intro w hSw;(try dsimp only at hSw);(try unfold S7 at hSw);(try obtain⟨q0,q1,q2,q3,q4,q5,q6,q7,q8,q9,q10,q11,q12,q13,q14,q15,q16,q17,q18,q19,q20,q21⟩:=hSw);go_simp;try with_reducible rfl)
  simp only[Act.put,List.setIfInBounds_toArray,List.set_cons_zero,List.set_cons_succ];refine wpAnyH_take (i:=3) (oi:=_) (v:=?vr3) rfl (by kernel_rfl) (by kernel_rfl) (by kernel_rfl) (fun _ _ _ h=>h) (Or.inl ⟨by rfl,?yr3⟩) (by assumption) ?qr3
  case yr3=>(intro w hSw;(try dsimp only at hSw);(try unfold S7 at hSw);(try obtain⟨q0,q1,q2,q3,q4,q5,q6,q7,q8,q9,q10,q11,q12,q13,q14,q15,q16,q17,q18,q19,q20,q21⟩:=hSw);go_simp;try with_reducible rfl)
  simp only[Act.put,List.setIfInBounds_toArray,List.set_cons_zero,List.set_cons_succ];refine wpAnyH_take (i:=4) (oi:=_) (v:=?vr4) rfl (by kernel_rfl) (by kernel_rfl) (by kernel_rfl) (fun _ _ _ h=>h) (Or.inl ⟨by rfl,?yr4⟩) (by assumption) ?qr4
  case yr4=>(intro w hSw;(try dsimp only at hSw);(try unfold S7 at hSw);(try obtain⟨q0,q1,q2,q3,q4,q5,q6,q7,q8,q9,q10,q11,q12,q13,q14,q15,q16,q17,q18,q19,q20,q21⟩:=hSw);go_simp;try with_reducible rfl)
  simp only[Act.put,List.setIfInBounds_toArray,List.set_cons_zero,List.set_cons_succ];refine wpAnyH_take (i:=5) (oi:=_) (v:=?vr5) rfl (by kernel_rfl) (by kernel_rfl) (by kernel_rfl) (fun _ _ _ h=>h) (Or.inl ⟨by rfl,?yr5⟩) (by assumption) ?qr5
  case yr5=>(intro w hSw;(try dsimp only at hSw);(try unfold S7 at hSw);(try obtain⟨q0,q1,q2,q3,q4,q5,q6,q7,q8,q9,q10,q11,q12,q13,q14,q15,q16,q17,q18,q19,q20,q21⟩:=hSw);go_simp;try with_reducible rfl)
  simp only[Act.put,List.setIfInBounds_toArray,List.set_cons_zero,List.set_cons_succ];refine wpAnyH_take (i:=6) (oi:=_) (v:=?vr6) rfl (by kernel_rfl) (by kernel_rfl) (by kernel_rfl) (fun _ _ _ h=>h) (Or.inl ⟨by rfl,?yr6⟩) (by assumption) ?qr6
  case yr6=>(intro w hSw;(try dsimp only at hSw);(try unfold S7 at hSw);(try obtain⟨q0,q1,q2,q3,q4,q5,q6,q7,q8,q9,q10,q11,q12,q13,q14,q15,q16,q17,q18,q19,q20,q21⟩:=hSw);go_simp;try with_reducible rfl)
  simp only[Act.put,List.setIfInBounds_toArray,List.set_cons_zero,List.set_cons_succ];refine wpAnyH_take (i:=7) (oi:=_) (v:=?vr7) rfl (by kernel_rfl) (by kernel_rfl) (by kernel_rfl) (fun _ _ _ h=>h) (Or.inl ⟨by rfl,?yr7⟩) (by assumption) ?qr7
  case yr7=>(intro w hSw;(try dsimp only at hSw);(try unfold S7 at hSw);(try obtain⟨q0,q1,q2,q3,q4,q5,q6,q7,q8,q9,q10,q11,q12,q13,q14,q15,q16,q17,q18,q19,q20,q21⟩:=hSw);go_simp;try with_reducible rfl)
  simp only[Act.put,List.setIfInBounds_toArray,List.set_cons_zero,List.set_cons_succ];refine wpAnyH_take (i:=8) (oi:=_) (v:=?vr8) rfl (by kernel_rfl) (by kernel_rfl) (by kernel_rfl) (fun _ _ _ h=>h) (Or.inl ⟨by rfl,?yr8⟩) (by assumption) ?qr8
  case yr8=>(intro w hSw;(try dsimp only at hSw);(try unfold S7 at hSw);(try obtain⟨q0,q1,q2,q3,q4,q5,q6,q7,q8,q9,q10,q11,q12,q13,q14,q15,q16,q17,q18,q19,q20,q21⟩:=hSw);go_simp;try with_reducible rfl)
  simp only[Act.put,List.setIfInBounds_toArray,List.set_cons_zero,List.set_cons_succ];have hres7:=Hres'.out;rw[Tree.exec_bind,HX.out]at hres7;dsimp only at hres7;rw[Tree.exec_bind]at hres7;have hP':=HPd.out;have hok:=postPutT_ok (p:=p) (u:=u') (t:=tt) (v:=wd) (s:=s1) Hp.out HU.out Htl.out;have HC:=hid (post_put hP'.rm (Or.inl (Or.inl HK0.out)) (HT.out.keep hP'.kp HK0.out) p Hp.out u' tt wd Htl.out Hwu.out HU.out)
  generalize (postPutT p u' tt wd).exec s1=fr at*;obtain⟨⟨t',u''⟩,s2⟩:=fr;unfold PlanM.val V6.val at HC;dsimp only at HC hres7 hok;obtain⟨hok1,hok2⟩:=hok;clear hP' Hres';have Hres7:=hid hres7;have Hok1:=hid hok1;have Hok2:=hid hok2;clear hres7 hok1 hok2;refine wpAnyH_ready (rs:=[9]) (by kernel_rfl) (by simp) ?_
  refine AllReadyH.cons (o:=_) rfl (fun K hK=>?_) AllReadyH.nil
  go_simp
  refine HC.out.mono ?_;rintro e w7 ⟨⟨ey,rfl⟩,hr7,hk7⟩;have hP7:=HPd.out.keep hr7 hk7;have hs7:=hP7.s7 Hjs.out;dsimp only at hs7;clear hr7 hk7 HC HPd hHeld;have HP7:=hid hP7;clear hP7
  go_wp2_with fail
  refine hK.out _ _ hs7 (fun hHeld=>?_);clear hK K hs7 hHeld hTr
  (try simp only[Act.put,List.setIfInBounds_toArray,List.set_cons_zero,List.set_cons_succ])
  refine wpAnyH_done (by kernel_rfl) ?_ _
  simp only[Behind,List.length_cons,List.length_nil,Nat.reduceAdd,Nat.reduceSub];have hTr:(fun _:World=>True) w7:=trivial;refine wpAnyH_take (i:=10) (oi:=_) (v:=?vx10) rfl (by kernel_rfl) (by kernel_rfl) (by kernel_rfl) (fun _ _ _ h=>h) (Or.inl ⟨by rfl,?yx10⟩) (by assumption) ?qx10
  case yx10=>(intro w hSw;go_simp;try with_reducible rfl)
  simp only[Act.put,List.setIfInBounds_toArray,List.set_cons_zero,List.set_cons_succ];refine wpAnyH_take (i:=11) (oi:=_) (v:=?vx11) rfl (by kernel_rfl) (by kernel_rfl) (by kernel_rfl) (fun _ _ _ h=>h) (Or.inl ⟨by rfl,?yx11⟩) (by assumption) ?qx11
  case yx11=>(intro w hSw;go_simp;try with_reducible rfl)
  simp only[Act.put,List.setIfInBounds_toArray,List.set_cons_zero,List.set_cons_succ];refine wpAnyH_take (i:=12) (oi:=_) (v:=?vx12) rfl (by kernel_rfl) (by kernel_rfl) (by kernel_rfl) (fun _ _ _ h=>h) (Or.inl ⟨by rfl,?yx12⟩) (by assumption) ?qx12
  case yx12=>(intro w hSw;go_simp;try with_reducible rfl)
  simp only[Act.put,List.setIfInBounds_toArray,List.set_cons_zero,List.set_cons_succ];refine wpAnyH_take (i:=13) (oi:=_) (v:=?vx13) rfl (by kernel_rfl) (by kernel_rfl) (by kernel_rfl) (fun _ _ _ h=>h) (Or.inl ⟨by rfl,?yx13⟩) (by assumption) ?qx13
  case yx13=>(intro w hSw;go_simp;try with_reducible rfl)
  simp only[Act.put,List.setIfInBounds_toArray,List.set_cons_zero,List.set_cons_succ];refine wpAnyH_take (i:=14) (oi:=_) (v:=?vx14) rfl (by kernel_rfl) (by kernel_rfl) (by kernel_rfl) (fun _ _ _ h=>h) (Or.inl ⟨by rfl,?yx14⟩) (by assumption) ?qx14
  case yx14=>(intro w hSw;go_simp;try with_reducible rfl)
  simp only[Act.put,List.setIfInBounds_toArray,List.set_cons_zero,List.set_cons_succ];refine wpAnyH_take (i:=15) (oi:=_) (v:=?vx15) rfl (by kernel_rfl) (by kernel_rfl) (by kernel_rfl) (fun _ _ _ h=>h) (Or.inl ⟨by rfl,?yx15⟩) (by assumption) ?qx15
  case yx15=>(intro w hSw;go_simp;try with_reducible rfl)
  simp only[Act.put,List.setIfInBounds_toArray,List.set_cons_zero,List.set_cons_succ];have fg:=ownB_free HP7.out.own.1 (by rw[HP7.out.len];omega) (j*4+2)
  have a2:w7.cell? ⟨g,j*4+2,none⟩=some (I tt):=(HP7.out.s7 Hjs.out).2.2.2.2.2.2.2.2.2.2.2.2.2.2.2.2.2.2.2.2.2;have hP8:=HP7.out.set (j:=2) (a':=⟨tk,rc,t',tc⟩) (v:=I t') Hjs.out (by decide) rfl
  rw[List.set_set]at hP8;obtain⟨v0,v1,v2,v3,v4,v5⟩:=u'';have hP9:=hP8.setU v0 v1 v2 v3 v4 v5;have hc1:=hP8.b1;have zz62:=PLift.up @c355;exact c353
def zer9:List Value:=[.slice none 0 0,.int .i64 0,.int .u32 0,.int .i64 0,.int .i64 0,.int .i64 0,.int .i64 0,.int .i64 0,.int .i64 0]
structure D1 (w W:World)(K:Nat→Prop)(r m c B:Nat)(x:WrM)(v:Value)(s:St):Prop where
 rm:RM W (fun b=>K b∨(B≤b∧b<B+1+1+1)) r m c s
 kp:Keeps K w W
 b1:Blk W (B+1) (x.vals v)
 b2:Blk W (B+1+1) zer9
 lt:∀b,K b→b<B
section
variable {w W W':World}{K:Nat→Prop}{r m c B:Nat}{x:WrM}{v:Value}{s s':St}
theorem D1.keep (h:D1 w W K r m c B x v s)(h1:RM W' (fun b=>K b∨(B≤b∧b<B+1+1+1)) r m c s')(h2:Keeps (fun b=>K b∨(B≤b∧b<B+1+1+1)) W W'):D1 w W' K r m c B x v s':=
 ⟨h1,h.kp.trans (h2.mono fun b hb=>Or.inl hb),h.b1.keep h2 (Or.inr (by omega)),h.b2.keep h2 (Or.inr (by omega)),h.lt⟩
theorem D1.below (h:D1 w W K r m c B x v s)(h2:Keeps (· <W.heap.size) W W'):D1 w W' K r m c B x v s:=h.keep (h.rm.below h2) (h2.mono h.rm.lt)
theorem D1.ver (h:D1 w W K r m c B x v s)(y:Int):D1 w (W.setCell ⟨B+1,2,none⟩ (J y)) K r m c B { x with ver:=y } v s:=
 ⟨h.rm.setK (a:=⟨B+1,2,none⟩) (Or.inr (by show B≤B+1∧B+1<B+1+1+1;omega)) _,h.kp.setCell (p:=⟨B+1,2,none⟩) (fun hk=>by have:=h.lt (B+1) hk;omega) _,h.b1.set 2 _,h.b2.set_ne (a:=⟨B+1,2,none⟩) _ (by show B+1+1≠B+1;omega),h.lt⟩
theorem D1.out (h:D1 w W K r m c B x v s):Blk (((((((((W.setCell ⟨B+1+1,0,none⟩ v).setCell ⟨B+1+1,1,none⟩ (I x.terms)).setCell ⟨B+1+1,2,none⟩ (J x.ver)).setCell ⟨B+1+1,3,none⟩ (I x.used.a0)).setCell ⟨B+1+1,4,none⟩ (I x.used.a1)).setCell ⟨B+1+1,5,none⟩ (I x.used.a2)).setCell ⟨B+1+1,6,none⟩ (I x.used.a3)).setCell ⟨B+1+1,7,none⟩ (I x.used.a4)).setCell ⟨B+1+1,8,none⟩ (I x.used.a5)) (B+1+1) (x.vals v)∧RM (((((((((W.setCell ⟨B+1+1,0,none⟩ v).setCell ⟨B+1+1,1,none⟩ (I x.terms)).setCell ⟨B+1+1,2,none⟩ (J x.ver)).setCell ⟨B+1+1,3,none⟩ (I x.used.a0)).setCell ⟨B+1+1,4,none⟩ (I x.used.a1)).setCell ⟨B+1+1,5,none⟩ (I x.used.a2)).setCell ⟨B+1+1,6,none⟩ (I x.used.a3)).setCell ⟨B+1+1,7,none⟩ (I x.used.a4)).setCell ⟨B+1+1,8,none⟩ (I x.used.a5)) K r m c s∧Keeps K w (((((((((W.setCell ⟨B+1+1,0,none⟩ v).setCell ⟨B+1+1,1,none⟩ (I x.terms)).setCell ⟨B+1+1,2,none⟩ (J x.ver)).setCell ⟨B+1+1,3,none⟩ (I x.used.a0)).setCell ⟨B+1+1,4,none⟩ (I x.used.a1)).setCell ⟨B+1+1,5,none⟩ (I x.used.a2)).setCell ⟨B+1+1,6,none⟩ (I x.used.a3)).setCell ⟨B+1+1,7,none⟩ (I x.used.a4)).setCell ⟨B+1+1,8,none⟩ (I x.used.a5)):=by
 have hb:(fun b=>K b∨(B≤b∧b<B+1+1+1)) (B+1+1):=Or.inr (by omega)
 have hK:¬K (B+1+1):=fun hk=>by have:=h.lt _ hk;omega
 have h2:=h.b2;unfold zer9 at h2;refine⟨((((((((h2.set 0 v).set 1 (I x.terms)).set 2 (J x.ver)).set 3 (I x.used.a0)).set 4 (I x.used.a1)).set 5 (I x.used.a2)).set 6 (I x.used.a3)).set 7 (I x.used.a4)).set 8 (I x.used.a5),?_,?_⟩
 ·exact RM.mono (((((((((h.rm.setK (a:=⟨B+1+1,0,none⟩) hb v).setK (a:=⟨B+1+1,1,none⟩) hb (I x.terms)).setK (a:=⟨B+1+1,2,none⟩) hb (J x.ver)).setK (a:=⟨B+1+1,3,none⟩) hb (I x.used.a0)).setK (a:=⟨B+1+1,4,none⟩) hb (I x.used.a1)).setK (a:=⟨B+1+1,5,none⟩) hb (I x.used.a2)).setK (a:=⟨B+1+1,6,none⟩) hb (I x.used.a3)).setK (a:=⟨B+1+1,7,none⟩) hb (I x.used.a4)).setK (a:=⟨B+1+1,8,none⟩) hb (I x.used.a5)) fun b hb=>Or.inl hb
 ·exact((((((((h.kp.setCell (p:=⟨B+1+1,0,none⟩) hK v).setCell (p:=⟨B+1+1,1,none⟩) hK (I x.terms)).setCell (p:=⟨B+1+1,2,none⟩) hK (J x.ver)).setCell (p:=⟨B+1+1,3,none⟩) hK (I x.used.a0)).setCell (p:=⟨B+1+1,4,none⟩) hK (I x.used.a1)).setCell (p:=⟨B+1+1,5,none⟩) hK (I x.used.a2)).setCell (p:=⟨B+1+1,6,none⟩) hK (I x.used.a3)).setCell (p:=⟨B+1+1,7,none⟩) hK (I x.used.a4)).setCell (p:=⟨B+1+1,8,none⟩) hK (I x.used.a5)
end
theorem placeT_found (id:Int)(segs:List SegM):∀(l:List SegM) (i:Nat) (s:St),segs.drop i=l→((placeT id l i).exec s).1.2.2=true→
  ∃x,segs[((placeT id l i).exec s).1.1.toNat]? =some x∧0≤((placeT id l i).exec s).1.1∧((placeT id l i).exec s).1.1.toNat<segs.length∧0≤((placeT id l i).exec s).1.2.1∧((placeT id l i).exec s).1.2.1≤x.docs
 | [],i,s,_,h=>by cases h
 |x::l,i,s,hd,h=>by
  have hi:i<segs.length:=by
   rcases Nat.lt_or_ge i segs.length with h|h
   ·exact h
   ·rw[List.drop_eq_nil_of_le h]at hd;cases hd
  rw[List.drop_eq_getElem_cons hi]at hd;injection hd with h1 h2
  have hr:=findT_range x.base id x.docs 0 s;rw[placeT_cons]at h ⊢
  split at h
  ·rename_i hc
   rw[if_pos hc];exact⟨x,by simp[hi,h1],by dsimp only;omega,by simpa using hi,hc,by dsimp only;omega⟩
  ·rename_i hc
   rw[if_neg hc];exact placeT_found id segs l (i+1) _ h2 h
set_option maxRecDepth 100000 in
set_option maxHeartbeats 4000000 in
theorem write_delete {w:World}{K:Nat→Prop}{r m c:Nat}{s:St}(h:RM w K r m c s)(cf:ConfM)(W:WrM)(A:Option Addr)(cp:Nat)(id:Int)(hsl:SlAt w K 3 (.slice A W.segs.length cp) W.segs.length (W.segs.flatMap SegM.cells))
  (hok:∀x∈W.segs,(-1099511627700≤x.addr∧x.addr≤1099511627700)∧x.docs≤65536) (hn:W.segs.length≤65536) (hi:U32 id) (hv:0≤W.ver∧W.ver≤4294967294):
  Z 35 #[.pointer (some ⟨r,0,none⟩),.agg cf.list.toArray,.agg (W.vals (.slice A W.segs.length cp)).toArray,J id] w fun e w'=>
   e= .returned (.tuple #[.agg (((delT W id).exec s).1.1.vals (.slice A W.segs.length cp)).toArray,I ((delT W id).exec s).1.2])∧RM w' K r m c ((delT W id).exec s).2∧Keeps K w w':=by
 have hpl:=fun W0 (hR:RM W0 (fun b=>K b∨(w.heap.size≤b∧b<w.heap.size+1+1+1)) r m c s) hS=>write_place hR W A cp id hS hok hn hi;have hfd:=placeT_found id W.segs W.segs 0 s rfl;have hlt:=h.lt;obtain⟨hv0,hv1⟩:=hv;obtain⟨res,hres⟩:∃t,t=(delT W id).exec s:=⟨_,rfl⟩;rw[←hres];have hres2:res=(if((placeT id W.segs 0).exec s).1.2.2=false then .ret (W,7)else
  match W.segs[((placeT id W.segs 0).exec s).1.1.toNat]? with
  |none=> .ret (W,7)
  |some x=>(rowT x.base ((placeT id W.segs 0).exec s).1.2.1).bind fun row=> .off fun o=>if o=true∨row.tomb≠0 then .ret (W,7)else
   (killT x.base ((placeT id W.segs 0).exec s).1.2.1 (W.ver+1)).bind fun _=> .store 1 (W.ver+1) (.ret ({ W with ver:=W.ver+1 },0)):Tree (WrM×Int)).exec ((placeT id W.segs 0).exec s).2:=by
  rw[hres];unfold delT;rw[Tree.exec_bind];rfl
 clear hres;generalize (placeT id W.segs 0).exec s=pq at*;obtain⟨⟨pi,pd,pb⟩,s1⟩:=pq;dsimp only at hpl hfd hres2;obtain⟨segs,wt,wv,u0,u1,u2,u3,u4,u5⟩:=W;dsimp only at hsl hok hn hv0 hv1 hpl hfd hres2 ⊢;have hR0:=h;have H:=hid h;have Hsl:=hid hsl;have Hok:=hid hok;have Hlt:=hid hlt;have Hpl:=hid hpl;have Hfd:=hid hfd;have Hres2:=hid hres2;clear h hsl hok hlt hpl hfd hres2
 clear hR0;refine calls_hide fun R' hR'=>?_;unfold ConfM.list WrM.vals at*;dsimp only at*
 go_enter Tryz.func35,Tryz.ntmps35
 go_wp2_with fail
 refine calls_gen (fun W0=>D1 w W0 K r m c w.heap.size ⟨segs,wt,wv,⟨u0,u1,u2,u3,u4,u5⟩⟩ (.slice A segs.length cp) s) ?_ (fun W0 hD=>?_)
 ·have hk:Keeps (· <w.heap.size) w (((w.alloc (.cells #[I cf.docs,I cf.terms,I cf.s0,I cf.s1,I cf.s2,I cf.s3,I cf.book,I cf.room,cf.k,cf.b] 25)).alloc (.cells #[.slice A segs.length cp,I wt,J wv,I u0,I u1,I u2,I u3,I u4,I u5] 46)).alloc (.cells #[.slice none 0 0,I 0,J 0,I 0,I 0,I 0,I 0,I 0,I 0] 46)):=by
   exact kA
  have hb1:=((Blk.new (w.alloc (.cells #[I cf.docs,I cf.terms,I cf.s0,I cf.s1,I cf.s2,I cf.s3,I cf.book,I cf.room,cf.k,cf.b] 25)) [.slice A segs.length cp,I wt,J wv,I u0,I u1,I u2,I u3,I u4,I u5] 46).alloc (.cells #[.slice none 0 0,I 0,J 0,I 0,I 0,I 0,I 0,I 0,I 0] 46));have hb2:=Blk.new ((w.alloc (.cells #[I cf.docs,I cf.terms,I cf.s0,I cf.s1,I cf.s2,I cf.s3,I cf.book,I cf.room,cf.k,cf.b] 25)).alloc (.cells #[.slice A segs.length cp,I wt,J wv,I u0,I u1,I u2,I u3,I u4,I u5] 46)) [.slice none 0 0,I 0,J 0,I 0,I 0,I 0,I 0,I 0,I 0] 46
  refine⟨(H.out.moreB hk).mono fun b hb=>?_,hk.mono Hlt.out,?_,?_,Hlt.out⟩
  ·rcases hb with hb|hb
   ·exact Or.inl hb
   ·exact Or.inr (by simpa using hb)
  ·simpa[WrM.vals]using hb1
  ·unfold zer9;simpa using hb2
 generalize hBB:w.heap.size=B at*;have hS:=(Hsl.out.keep hD.kp fun b hb=>hb).mono (L:=fun b=>K b∨(B≤b∧b<B+1+1+1)) fun b hb=>Or.inl hb;refine(Hpl.out W0 hD.rm hS).mono ?_;rintro e w1 ⟨rfl,hr1,hk1⟩;have hD1:=hD.keep hr1 hk1;clear hD hr1 hk1 hS Hpl
 cases pb with
 |false=>
  have hres:res=((⟨segs,wt,wv,⟨u0,u1,u2,u3,u4,u5⟩⟩,7),s1):=by rw[Hres2.out];rfl
  have zz59:=PLift.up @c342;exact c341
 |true=>
  obtain⟨x,hx,hpi0,hpi1,hpd0,hpd1⟩:=Hfd.out rfl;obtain⟨⟨x0,x1⟩,x2⟩:=Hok.out x (List.mem_of_getElem? hx);have hbs:=Small.base ⟨x0,x1⟩;have hres:res=((rowT x.base pd).bind fun row=> .off fun o=>if o=true∨row.tomb≠0 then .ret (⟨segs,wt,wv,⟨u0,u1,u2,u3,u4,u5⟩⟩,7)else
   (killT x.base pd (wv+1)).bind fun _=> .store 1 (wv+1) (.ret (⟨segs,wt,wv+1,⟨u0,u1,u2,u3,u4,u5⟩⟩,0)):Tree (WrM×Int)).exec s1:=by
   rw[Hres2.out,if_neg (by decide),hx]
  rw[Tree.exec_bind]at hres;obtain⟨b0,o0,rfl,hkb,g1⟩:=SlAt.rec (SegM.len3 segs) Hsl.out pi.toNat x hx;have hblk:=hD1.kp.block b0 hkb;have a0:=(World.cell?_of_block (a:=⟨b0,o0+pi.toNat*3+0,none⟩) hblk).trans (g1 0 _ rfl);have a1:=(World.cell?_of_block (a:=⟨b0,o0+pi.toNat*3+1,none⟩) hblk).trans (g1 1 _ rfl);have a2:=(World.cell?_of_block (a:=⟨b0,o0+pi.toNat*3+2,none⟩) hblk).trans (g1 2 _ rfl)
  simp only[Nat.add_zero]at a0;have hBase:=fun W'=>write_base x W' (by unfold Small;omega)
  have hpdS:Small pd:=by unfold Small;omega
  obtain⟨p,rfl⟩:=Int.eq_ofNat_of_zero_le hpi0;simp only[Int.toNat_natCast]at a0 a1 a2 hpi1;have hpI:(p:Int)<(segs.length:Int):=by omega
  obtain⟨xa,xd,xs⟩:=x;dsimp only at a0 a1 a2 hBase hres x0 x1 x2 hpd1;generalize SegM.base ⟨xa,xd,xs⟩=bs at*;have hrow:=fun W' (hR:RM W' (fun b=>K b∨(B≤b∧b<B+1+1+1)) r m c s1)=>table_row hR bs pd hbs hpdS;generalize (rowT bs pd).exec s1=fr at*;obtain⟨⟨rb,ri,rl,rt⟩,s2⟩:=fr;have hres:res=(if s2.isOff=true∨rt≠0 then .ret (⟨segs,wt,wv,⟨u0,u1,u2,u3,u4,u5⟩⟩,7)else
   (killT bs pd (wv+1)).bind fun _=> .store 1 (wv+1) (.ret (⟨segs,wt,wv+1,⟨u0,u1,u2,u3,u4,u5⟩⟩,0)):Tree (WrM×Int)).exec s2:=hres
  have zz59:=PLift.up @c343;exact c341
end Go.Proofs.YtogdknnkhkjmcaaGreatDoor
