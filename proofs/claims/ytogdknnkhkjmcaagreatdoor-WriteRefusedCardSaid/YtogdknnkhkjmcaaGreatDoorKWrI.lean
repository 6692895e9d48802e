/- Lemmas on the programs that the statement reaches. -/
import Derived.Test.YtogdknnkhkjmcaaGreatDoorKOpenB
namespace Go.Proofs.YtogdknnkhkjmcaaGreatDoor
open Go.RowKit
set_option linter.all false
theorem ownsRow_set6 {w:World}{B E sz n b:Nat}{v:Value}{xs:List Value}(h:w.ownsRow B E sz v n xs)(hb:v.ownBlock≠some b)(v0 v1 v2 v3 v4 v5:Value):
  ((((((w.setCell ⟨b,0,none⟩ v0).setCell ⟨b,1,none⟩ v1).setCell ⟨b,2,none⟩ v2).setCell ⟨b,3,none⟩ v3).setCell ⟨b,4,none⟩ v4).setCell ⟨b,5,none⟩ v5).ownsRow B E sz v n xs:=
 ownsRow_setCell_other (ownsRow_setCell_other (ownsRow_setCell_other (ownsRow_setCell_other (ownsRow_setCell_other (ownsRow_setCell_other h (a:=⟨b,0,none⟩) hb v0) (a:=⟨b,1,none⟩) hb v1) (a:=⟨b,2,none⟩) hb v2) (a:=⟨b,3,none⟩) hb v3) (a:=⟨b,4,none⟩) hb v4) (a:=⟨b,5,none⟩) hb v5
theorem RM.set6 {w:World}{K:Nat→Prop}{r m c:Nat}{s:St}(h:RM w K r m c s){b:Nat}(v0 v1 v2 v3 v4 v5:Value)(hb:K b):
  RM ((((((w.setCell ⟨b,0,none⟩ v0).setCell ⟨b,1,none⟩ v1).setCell ⟨b,2,none⟩ v2).setCell ⟨b,3,none⟩ v3).setCell ⟨b,4,none⟩ v4).setCell ⟨b,5,none⟩ v5) K r m c s:=
 (((((h.setK (a:=⟨b,0,none⟩) hb v0).setK (a:=⟨b,1,none⟩) hb v1).setK (a:=⟨b,2,none⟩) hb v2).setK (a:=⟨b,3,none⟩) hb v3).setK (a:=⟨b,4,none⟩) hb v4).setK (a:=⟨b,5,none⟩) hb v5
set_option maxRecDepth 100000 in
set_option maxHeartbeats 4000000 in
theorem write_place1 {w:World}{K:Nat→Prop}{r m c:Nat}{s:St}(p:PlanM)(hp:p.Wf)(u:V6)(hu:UIn p u)(s0 d:Int)(x:TokI)(all:List TermM)(A:Option Addr)(cp:Nat)(t0:TermM)
  (h:RM w (fun b=>K b∨(Value.slice A all.length cp).ownBlock=some b) r m c s) (hK0:K 0) (hT:PTab w) (h4:p.size.a4≤65536) (hb4:0≤p.base.a4∧p.base.a4≤65536) (hn:1≤p.slots∧p.slots≤65536) (hs0:0≤s0∧s0≤65536)
  (hx:(0≤x.1∧x.1≤255)∧x.2.1.size≤900) (hall:∀t∈all,U32 t.tl) (hl:all.length≤65536) (hO:TermOwn w K (.slice A all.length cp) all) (h0:all[keyIx (keyB x.1 x.2.1) all]? =some t0):
  Z 55 #[.pointer (some ⟨r,0,none⟩),p.val,u.val,I s0,I d,.agg (tokI x).toArray,.slice A all.length cp] w fun e w'=>
   e= .returned ((wordT p s0 p.slots.toNat d x all u).exec s).1.2.val∧RM w' (fun b=>K b∨(Value.slice A all.length cp).ownBlock=some b) r m c ((wordT p s0 p.slots.toNat d x all u).exec s).2∧
    TermOwn w' K (.slice A all.length cp) ((wordT p s0 p.slots.toNat d x all u).exec s).1.1∧Keeps K w w':=by
 obtain⟨xf,xt,xp⟩:=x;obtain⟨⟨hx0,hx1⟩,hx2⟩:=hx;dsimp only at hx0 hx1 hx2 h0;have hkey:=fun W=>pack_key xf xt ⟨hx0,hx1⟩ (by omega) W
 have hks:=keyB_size xf xt;have hlt0:=h.lt;generalize hres:(wordT p s0 p.slots.toNat d (xf,xt,xp) all u).exec s=res;have hres':(match all[keyIx (keyB xf xt) all]? with
 |none=> .ret (all,u)
 |some t=>(recT p s0 p.slots.toNat t u).bind fun q=>(postPutT p q.2 t.tl (wordOf d xp)).bind fun y=> .store q.1 y.1 (.ret (all.set (keyIx (keyB xf xt) all) ⟨t.key,q.1,y.1,t.cnt⟩,y.2)):Tree (List TermM×V6)).exec s=res:=hres
 rw[h0]at hres';dsimp only at hres';clear hres;obtain⟨g,rfl,-⟩:=own_rec TermM.len4 hO.1 h0;have htk:t0.key=keyB xf xt:=key_same (keyIx_hit h0);have htl:=hall t0 (List.mem_of_getElem? h0);have Hkey:=hid hkey;have H:=hid h;have HO:=hid hO;have H0:=hid h0;have HT:=hid hT;have Hp:=hid hp;have Hu:=hid hu;have Hlt0:=hid hlt0;have Hres':=hid hres';have HK0:=hid hK0;have Htk:=hid htk
 have Htl:=hid htl;clear hkey h hO h0 hT hp hu hlt0 hres' hK0 htk htl;clear hall;refine calls_hide fun R' hR'=>?_;unfold PlanM.val V6.val tokI at*
 go_enter Tryz.func55,Tryz.ntmps55
 go_wp2_with fail
 refine calls_gen (fun W=>Blk W w.heap.size p.flat∧Blk W (w.heap.size+1) u.list∧Blk W (w.heap.size+1+1) (tokI (xf,xt,xp))∧Blk W (w.heap.size+1+1+1) zero6.list∧Keeps (· <w.heap.size) w W) ⟨?_,?_,?_,?_,?_⟩ (fun W0 HW=>?_)
 ·have h0:=Blk.new w p.flat 42;exact((h0.alloc _).alloc _).alloc _
 ·unfold V6.list;exact bA
 ·unfold tokI;exact bA
 ·unfold V6.list zero6;exact bA
 ·exact kA
 obtain⟨hA0,hA1,hA2,hA3,hkA⟩:=HW;refine(Hkey.out W0).mono ?_;rintro e w1 ⟨ky,rfl,hky,hk1⟩;obtain rfl:=key_of ⟨hx0,hx1⟩ hky;generalize keyB xf xt=key at*;have hl3:=hA3.lt;have hB0:=hA0.keep hk1 hA0.lt;have hB1:=hA1.keep hk1 hA1.lt;have hB2:=hA2.keep hk1 hA2.lt;have hB3:=hA3.keep hk1 hA3.lt;have hkw:=hkA.trans (hk1.mono fun b hb=>by have:=hkA.size;omega)
 have hz:=hk1.size;clear hA0 hA1 hA2 hA3 hkA hk1 hky Hkey;generalize hBB:w.heap.size=B at*;have hkb:B+1+1+1<w1.heap.size:=by omega
 have HB0:=hid hB0;have HB1:=hid hB1;have HB2:=hid hB2;have HB3:=hid hB3;have Hkw:=hid hkw;have HBB:=hid hBB;clear hB0 hB1 hB2 hB3 hkw hBB;clear hl3 hz
 go_wp2_with fail
 have hkc:=Blk.new w1 [.string key] 9;have hka:Keeps (· <w1.heap.size) w1 (w1.alloc (.cells #[.string key] 9)):=(Keeps.refl _ _).alloc (fun b hb=>hb) _;have hsz:(w1.alloc (.cells #[.string key] 9)).heap.size=w1.heap.size+1:=World.size_alloc _ _;generalize w1.alloc (.cells #[.string key] 9)=W1 at*;have hkw1:=Hkw.out.trans (hka.mono fun b hb=>by omega)
 have hO1:=own_of_keep HO.out.1 hkw1 fun b hb=>Hlt0.out b (Or.inr hb);refine(index_func all _ cp key t0 w1.heap.size W1 (hkc.cell 0) (by omega) hl hO1 H0.out).mono ?_
 rintro e w2 ⟨rfl,hk2⟩;have hP1:P1 w w2 K r m c B w2.heap.size w1.heap.size (some ⟨g,0,none⟩) all.length cp p u (xf,xt,xp) key all s:=by
  have hk3:=hka.trans (hk2.mono fun b hb=>by omega)
  have hk4:=Hkw.out.trans (hk3.mono fun b hb=>by omega)
  have hs2:=hk2.size;have hlt1:∀b,K b∨(Value.slice (some ⟨g,0,none⟩) all.length cp).ownBlock=some b→b<B:=Hlt0.out;refine⟨?_,⟨own_of_keep HO.out.1 hk4 fun b hb=>hlt1 b (Or.inr hb),HO.out.2⟩,hk4.mono fun b hb=>hlt1 b (Or.inl hb),HB0.out.keep hk3 HB0.out.lt,HB1.out.keep hk3 HB1.out.lt,HB2.out.keep hk3 HB2.out.lt,HB3.out.keep hk3 HB3.out.lt,hkc.keep hk2 (by omega),rfl,⟨by omega,by omega⟩,hlt1⟩
  have:=H.out.moreB (w':=w2) (by rw[HBB.out];exact hk4)
  rwa [HBB.out]at this
 clear HB0 HB1 HB2 HB3 Hkw hkc hka hsz hkw1 hO1 hk2;have hkl:w1.heap.size<w2.heap.size:=hP1.h0.2;generalize w1.heap.size=kb at*;generalize hB':w2.heap.size=B' at*;have HP1:=hid hP1;have HB':=hid hB';clear hP1 hB';have a1:w2.cell? ⟨g,keyIx key all*4+1,none⟩=some (I t0.recd):=by
  obtain⟨g',e,hc⟩:=own_rec TermM.len4 HP1.out.own.1 H0.out;injection e with e;injection e with e;subst e
  exact hc 1 _ (by decide) rfl
 obtain⟨tk,tr,tt,tc⟩:=t0;have a1:w2.cell? ⟨g,keyIx key all*4+1,none⟩=some (I tr):=a1;have hjl:keyIx key all<all.length:=(List.getElem?_eq_some_iff.1 H0.out).1;generalize keyIx key all=j at*;have hjI:(j:Int)<(all.length:Int):=by omega
 go_upto_if 35 with fail
 go_cut[16,17,18]from 36 to 58 (fun v _ _ wx=>∃(rc:Int) (u':V6) (s':St),v= .pointer (some ⟨g,j*4,none⟩)∧Hid ((recT p s0 p.slots.toNat ⟨tk,tr,tt,tc⟩ u).exec s=((rc,u'),s'))∧Hid (UIn p u')∧Hid (P1 w wx K r m c B B' kb (some ⟨g,0,none⟩) all.length cp p u' (xf,xt,xp) key (all.set j ⟨tk,rc,tt,tc⟩) s'))
 case first=>
  by_cases hr:tr=0
  ·subst hr;have hs0n:((p.slots.toNat:Nat):Int)=p.slots:=by omega
   have hfind:=fun W (hW:RM W (fun b=>(K b∨(Value.slice (some ⟨g,0,none⟩) all.length cp).ownBlock=some b)∨(B≤b∧b<B')) r m c s)=>dict_find hW s0 p.slots.toNat key hs0 (by omega) (by omega)
   rw[hs0n]at hfind;have hfr:=findK_range s0 p.slots.toNat key (by omega) s
   have hfind:∀W,RM W (fun b=>(K b∨(Value.slice (some ⟨g,0,none⟩) all.length cp).ownBlock=some b)∨(B≤b∧b<B')) r m c s→Z 75 #[.pointer (some ⟨r,0,none⟩),I s0,I p.slots,.string key] W fun e w'=>
    e= .returned (.tuple #[I ((findK s0 p.slots.toNat key).exec s).1.1,I ((findK s0 p.slots.toNat key).exec s).1.2])∧RM w' (fun b=>(K b∨(Value.slice (some ⟨g,0,none⟩) all.length cp).ownBlock=some b)∨(B≤b∧b<B')) r m c ((findK s0 p.slots.toNat key).exec s).2∧Keeps (fun b=>(K b∨(Value.slice (some ⟨g,0,none⟩) all.length cp).ownBlock=some b)∨(B≤b∧b<B')) W w':=hfind
   have hrecT:(recT p s0 p.slots.toNat ⟨key,0,tt,tc⟩ u).exec s=(dictPutT p u s0 ((findK s0 p.slots.toNat key).exec s).1.2 key).exec ((findK s0 p.slots.toNat key).exec s).2:=by
    unfold recT;rw[if_pos rfl,Tree.exec_bind]
   obtain rfl:tk=key:=Htk.out;generalize (findK s0 p.slots.toNat tk).exec s=fr at*;obtain⟨⟨rc,sl⟩,s1⟩:=fr;dsimp only at hfr hfind hrecT;have hc0:=HP1.out.b0;unfold PlanM.flat at hc0;obtain⟨c0,c1,c2,c3,c4,c5,c6,c7,c8,c9,c10,c11,c12,c13,c14⟩:=hc0.c15;have k0:=HP1.out.bk.cell 0;simp only[List.getElem?_cons_zero]at k0;clear hc0 hs0n;have Hfind:=hid hfind;have HrecT:=hid hrecT
   clear hfind hrecT
   go_wp2_with fail
   refine(Hfind.out _ HP1.out.rm).mono ?_;rintro e w3 ⟨rfl,hr3,hk3⟩;have hP3:=HP1.out.keep hr3 hk3;have HD:=hid (dict_put_any hP3.rm p u s0 sl tk (by omega) Hu.out h4 hb4 hs0 (by omega))
   have hu':=dictPutT_ok (p:=p) (u:=u) (s0:=s0) (sl:=sl) (t:=tk) (s:=s1) Hu.out;clear hr3 hk3 k0 c0 c1 c2 c3 c4 c5 c6 c7 c8 c9 c10 c11 c12 c13 c14 Hfind a1;have hc0:=hP3.b0;unfold PlanM.flat at hc0;obtain⟨c0,c1,c2,c3,c4,c5,c6,c7,c8,c9,c10,c11,c12,c13,c14⟩:=hc0.c15;have hc1:=hP3.b1;unfold V6.list at hc1;obtain⟨y0,y1,y2,y3,y4,y5⟩:=hc1.c6;have k0:=hP3.bk.cell 0
   simp only[List.getElem?_cons_zero]at k0;clear hc0 hc1;generalize (dictPutT p u s0 sl tk).exec s1=fr at*;obtain⟨⟨ad,u'⟩,s2⟩:=fr;unfold PlanM.val V6.val at HD;dsimp only at HD hu';have HP3:=hid hP3;have Hu':=hid hu';clear hP3 hu'
   go_wp2_with fail
   refine HD.out.mono ?_;rintro e w4 ⟨⟨ex,rfl⟩,hr4,hk4⟩;have hP4:=HP3.out.keep hr4 hk4;clear hr4 hk4 k0 c0 c1 c2 c3 c4 c5 c6 c7 c8 c9 c10 c11 c12 c13 c14 y0 y1 y2 y3 y4 y5 HD HP3;obtain⟨v0,v1,v2,v3,v4,v5⟩:=u';have hP5:=(hP4.set (j:=1) (a':=⟨tk,ad,tt,tc⟩) (v:=I ad) H0.out (by decide) rfl).setU v0 v1 v2 v3 v4 v5
   have hc1:=hP4.b1;have zz63:=PLift.up @c362;exact c361
  ·have hrecT:(recT p s0 p.slots.toNat ⟨tk,tr,tt,tc⟩ u).exec s=((tr,u),s):=by
    unfold recT;rw[if_neg hr];rfl
   have hset:all.set j ⟨tk,tr,tt,tc⟩=all:=by
    obtain⟨h1,h2⟩:=List.getElem?_eq_some_iff.1 H0.out;rw[←h2];exact List.set_getElem_self h1
   have HrecT:=hid hrecT;have Hset:=hid hset;clear hrecT hset
   go_wp2_with fail
   go_meet
   case rel=>exact⟨tr,u,s,rfl,HrecT,Hu,hid (by rw[Hset.out];exact HP1.out)⟩
 case rest=>
  obtain⟨rc,u',s1,rfl,HX,HU,HP⟩:=hcut;have hc2:=HP.out.b2;unfold tokI at hc2;obtain⟨z0,z1,z2⟩:=hc2.c3;clear hc2 a1;have hjs:(all.set j ⟨tk,rc,tt,tc⟩)[j]? =some ⟨tk,rc,tt,tc⟩:=by rw[List.getElem?_set_self hjl]
  have Hjs:=hid hjs;clear hjs
  go_upto_region 7 with(go_at_call 82;refine(pack_word d xp _).mono ?_;rintro e w5 ⟨⟨ex,rfl⟩,rfl⟩)
  generalize hwd:wordOf d xp=wd at*;have hwu:U32 wd:=by rw[←hwd];exact wordOf_in d xp
  have Hwd:=hid hwd;have Hwu:=hid hwu;clear hwd hwu;refine wp_region_held_drew (S:=fun _=>True) (by kernel_rfl) trivial (fun hHeld0=>?_)
  have hTr:(fun _:World=>True) w5.drew:=trivial;refine wpAnyH_take (i:=0) (oi:=_) (v:=?vr0) rfl (by kernel_rfl) (by kernel_rfl) (by kernel_rfl) (fun _ _ _ h=>h) (Or.inl ⟨by rfl,?yr0⟩) (by assumption) ?qr0
  case yr0=>(intro w hSw;(try dsimp only at hSw);(try unfold S7 at hSw);(try obtain⟨q0,q1,q2,q3,q4,q5,q6,q7,q8,q9,q10,q11,q12,q13,q14,q15,q16,q17,q18,q19,q20,q21⟩:=hSw);go_simp;try with_reducible rfl)
  simp only[Act.put,List.setIfInBounds_toArray,List.set_cons_zero,List.set_cons_succ];refine wpAnyH_headC (S:=S7 B g (j*4+2) p u' tt) 10 9 [0] #[true,false,false,false,false,false,false,false,false,false] (by kernel_rfl) (by kernel_rfl) (by kernel_rfl) (fun _ _=>trivial) ?_
  simp only[List.take_succ_cons,List.take_zero];have hPd:=HP.out.drew;have hHeld:=hPd.s7 Hjs.out;dsimp only at hHeld;have HPd:=hid hPd;clear hPd;refine wpAnyH_take (i:=1) (oi:=_) (v:=?vr1) rfl (by kernel_rfl) (by kernel_rfl) (by kernel_rfl) (fun _ _ _ h=>h) (Or.inl ⟨by rfl,?yr1⟩) (by assumption) ?qr1
  case yr1=>(intro w hSw;(try dsimp only at hSw);(try unfold S7 at hSw);(try obtain⟨q0,q1,q2,q3,q4,q5,q6,q7,q8,q9,q10,q11,q12,q13,q14,q15,q16,q17,q18,q19,q20,q21⟩:=hSw);go_simp;try with_reducible rfl)
  simp only[Act.put,List.setIfInBounds_toArray,List.set_cons_zero,List.set_cons_succ];refine wpAnyH_take (i:=2) (oi:=_) (v:=?vr2) rfl (by kernel_rfl) (by kernel_rfl) (by kernel_rfl) (fun _ _ _ h=>h) (Or.inl ⟨by rfl,?yr2⟩) (by assumption) ?qr2
  case yr2=>(intro w hSw;(try dsimp only at hSw);(try unfold S7 at hSw);(try obtain⟨q0,q1,q2,q3,q4,q5,q6,q7,q8,q9,q10,q11,q12,q13,q14,q15,q16,q17,q18,q19,q20,q21⟩:=hSw);go_simp;try with_reducible rfl)
  simp only[Act.put,List.setIfInBounds_toArray,List.set_cons_zero,List.set_cons_succ];refine wpAnyH_take (i:=3) (oi:=_) (v:=?vr3) rfl (by kernel_rfl) (by kernel_rfl) (by kernel_rfl) (fun _ _ _ h=>h) (Or.inl ⟨by rfl,?yr3⟩) (by assumption) ?qr3
  case yr3=>(intro w hSw;(try dsimp only at hSw);(try unfold S7 at hSw);(try obtain⟨q0,q1,q2,q3,q4,q5,q6,q7,q8,q9,q10,q11,q12,q13,q14,q15,q16,q17,q18,q19,q20,q21⟩:=hSw);go_simp;try with_reducible rfl)
  simp only[Act.put,List.setIfInBounds_toArray,List.set_cons_zero,List.set_cons_succ];refine wpAnyH_take (i:=4) (oi:=_) (v:=?vr4) rfl (by kernel_rfl) (by kernel_rfl) (by kernel_rfl) (fun _ _ _ h=>h) (Or.inl ⟨by rfl,?yr4⟩) (by assumption) ?qr4
  case yr4=>(intro w hSw;(try dsimp only at hSw);(try unfold S7 at hSw);(try obtain⟨q0,q1,q2,q3,q4,q5,q6,q7,q8,q9,q10,q11,q12,q13,q14,q15,q16,q17,q18,q19,q20,q21⟩:=hSw);go_simp;try with_reducible rfl)
  simp only[Act.put,List.setIfInBounds_toArray,List.set_cons_zero,List.set_cons_succ];refine wpAnyH_take (i:=5) (oi:=_) (v:=?vr5) rfl (by kernel_rfl) (by kernel_rfl) (by kernel_rfl) (fun _ _ _ h=>h) (Or.inl ⟨by rfl,?yr5⟩) (by assumption) ?qr5
  case yr5=>(intro w hSw;(try dsimp only at hSw);(try unfold S7 at hSw);(try obtain⟨q0,q1,q2,q3,q4,q5,q6,q7,q8,q9,q10,q11,q12,q13,q14,q15,q16,q17,q18,q19,q20,q21⟩:=hSw);go_simp;try with_reducible rfl)
  simp only[Act.put,List.setIfInBounds_toArray,List.set_cons_zero,List.set_cons_succ];refine wpAnyH_take (i:=6) (oi:=_) (v:=?vr6) rfl (by kernel_rfl) (by kernel_rfl) (by kernel_rfl) (fun _ _ _ h=>h) (Or.inl ⟨by rfl,?yr6⟩) (by assumption) ?qr6
  case yr6=>(intro w hSw;(try dsimp only at hSw);(try unfold S7 at hSw);(try obtain⟨q0,q1,q2,q3,q4,q5,q6,q7,q8,q9,q10,q11,q12,q13,q14,q15,q16,q17,q18,q19,q20,q21⟩:=hSw);go_simp;try with_reducible rfl)
  simp only[Act.put,List.setIfInBounds_toArray,List.set_cons_zero,List.set_cons_succ];refine wpAnyH_take (i:=7) (oi:=_) (v:=?vr7) rfl (by kernel_rfl) (by kernel_rfl) (by kernel_rfl) (fun _ _ _ h=>h) (Or.inl ⟨by rfl,?yr7⟩) (by assumption) ?qr7
  case yr7=>(intro w hSw;(try dsimp only at hSw);(try unfold S7 at hSw);(try obtain⟨q0,q1,q2,q3,q4,q5,q6,q7,q8,q9,q10,q11,q12,q13,q14,q15,q16,q17,q18,q19,q20,q21⟩:=hSw);go_simp;try with_reducible rfl)
  simp only[Act.put,List.setIfInBounds_toArray,List.set_cons_zero,List.set_cons_succ];refine wpAnyH_take (i:=8) (oi:=_) (v:=?vr8) rfl (by kernel_rfl) (by kernel_rfl) (by kernel_rfl) (fun _ _ _ h=>h) (Or.inl ⟨by rfl,?yr8⟩) (by assumption) ?qr8
  case yr8=>(intro w hSw;(try dsimp only at hSw);(try unfold S7 at hSw);(try obtain⟨q0,q1,q2,q3,q4,q5,q6,q7,q8,q9,q10,q11,q12,q13,q14,q15,q16,q17,q18,q19,q20,q21⟩:=hSw);go_simp;try with_reducible rfl)
  simp only[Act.put,List.setIfInBounds_toArray,List.set_cons_zero,List.set_cons_succ];have hres7:=Hres'.out;rw[Tree.exec_bind,HX.out]at hres7;dsimp only at hres7;rw[Tree.exec_bind]at hres7;have hP':=HPd.out;have hok:=postPutT_ok (p:=p) (u:=u') (t:=tt) (v:=wd) (s:=s1) Hp.out HU.out Htl.out;have HC:=hid (post_put hP'.rm (Or.inl (Or.inl HK0.out)) (HT.out.keep hP'.kp HK0.out) p Hp.out u' tt wd Htl.out Hwu.out HU.out)
  generalize (postPutT p u' tt wd).exec s1=fr at*;obtain⟨⟨t',u''⟩,s2⟩:=fr;unfold PlanM.val V6.val at HC;dsimp only at HC hres7 hok;obtain⟨hok1,hok2⟩:=hok;clear hP' Hres';have Hres7:=hid hres7;have Hok1:=hid hok1;have Hok2:=hid hok2;clear hres7 hok1 hok2;refine wpAnyH_ready (rs:=[9]) (by kernel_rfl) (by simp) ?_
  refine AllReadyH.cons (o:=_) rfl (fun K hK=>?_) AllReadyH.nil
  go_simp
  refine HC.out.mono ?_;rintro e w7 ⟨⟨ey,rfl⟩,hr7,hk7⟩;have hP7:=HPd.out.keep hr7 hk7;have hs7:=hP7.s7 Hjs.out;dsimp only at hs7;clear hr7 hk7 HC HPd hHeld;have HP7:=hid hP7;clear hP7
  go_wp2_with fail
  refine hK.out _ _ hs7 (fun hHeld=>?_);clear hK K hs7 hHeld hTr
  (try simp only[Act.put,List.setIfInBounds_toArray,List.set_cons_zero,List.set_cons_succ])
  refine wpAnyH_done (by kernel_rfl) ?_ _
  simp only[Behind,List.length_cons,List.length_nil,Nat.reduceAdd,Nat.reduceSub];have hTr:(fun _:World=>True) w7:=trivial;refine wpAnyH_take (i:=10) (oi:=_) (v:=?vx10) rfl (by kernel_rfl) (by kernel_rfl) (by kernel_rfl) (fun _ _ _ h=>h) (Or.inl ⟨by rfl,?yx10⟩) (by assumption) ?qx10
  case yx10=>(intro w hSw;go_simp;try with_reducible rfl)
  simp only[Act.put,List.setIfInBounds_toArray,List.set_cons_zero,List.set_cons_succ];refine wpAnyH_take (i:=11) (oi:=_) (v:=?vx11) rfl (by kernel_rfl) (by kernel_rfl) (by kernel_rfl) (fun _ _ _ h=>h) (Or.inl ⟨by rfl,?yx11⟩) (by assumption) ?qx11
  case yx11=>(intro w hSw;go_simp;try with_reducible rfl)
  simp only[Act.put,List.setIfInBounds_toArray,List.set_cons_zero,List.set_cons_succ];refine wpAnyH_take (i:=12) (oi:=_) (v:=?vx12) rfl (by kernel_rfl) (by kernel_rfl) (by kernel_rfl) (fun _ _ _ h=>h) (Or.inl ⟨by rfl,?yx12⟩) (by assumption) ?qx12
  case yx12=>(intro w hSw;go_simp;try with_reducible rfl)
  simp only[Act.put,List.setIfInBounds_toArray,List.set_cons_zero,List.set_cons_succ];refine wpAnyH_take (i:=13) (oi:=_) (v:=?vx13) rfl (by kernel_rfl) (by kernel_rfl) (by kernel_rfl) (fun _ _ _ h=>h) (Or.inl ⟨by rfl,?yx13⟩) (by assumption) ?qx13
  case yx13=>(intro w hSw;go_simp;try with_reducible rfl)
  simp only[Act.put,List.setIfInBounds_toArray,List.set_cons_zero,List.set_cons_succ];refine wpAnyH_take (i:=14) (oi:=_) (v:=?vx14) rfl (by kernel_rfl) (by kernel_rfl) (by kernel_rfl) (fun _ _ _ h=>h) (Or.inl ⟨by rfl,?yx14⟩) (by assumption) ?qx14
  case yx14=>(intro w hSw;go_simp;try with_reducible rfl)
  simp only[Act.put,List.setIfInBounds_toArray,List.set_cons_zero,List.set_cons_succ];refine wpAnyH_take (i:=15) (oi:=_) (v:=?vx15) rfl (by kernel_rfl) (by kernel_rfl) (by kernel_rfl) (fun _ _ _ h=>h) (Or.inl ⟨by rfl,?yx15⟩) (by assumption) ?qx15
  case yx15=>(intro w hSw;go_simp;try with_reducible rfl)
  simp only[Act.put,List.setIfInBounds_toArray,List.set_cons_zero,List.set_cons_succ];have fg:=ownB_free HP7.out.own.1 (by rw[HP7.out.len];omega) (j*4+2)
  have a2:w7.cell? ⟨g,j*4+2,none⟩=some (I tt):=(HP7.out.s7 Hjs.out).2.2.2.2.2.2.2.2.2.2.2.2.2.2.2.2.2.2.2.2.2;have hP8:=HP7.out.set (j:=2) (a':=⟨tk,rc,t',tc⟩) (v:=I t') Hjs.out (by decide) rfl
  rw[List.set_set]at hP8;obtain⟨v0,v1,v2,v3,v4,v5⟩:=u'';have hP9:=hP8.setU v0 v1 v2 v3 v4 v5;have hc1:=hP8.b1;have zz63:=PLift.up @c363;exact c361
end Go.Proofs.YtogdknnkhkjmcaaGreatDoor
