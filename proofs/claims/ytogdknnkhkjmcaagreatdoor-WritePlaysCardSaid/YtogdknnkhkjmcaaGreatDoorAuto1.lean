/- Tactic lines that stand more than once in these texts, each kept once as an automatic argument. -/
import Derived.WalkKit
import Derived.WalkSpells
import Derived.WalkLawsBesides
import Derived.Deep.Draws
import Derived.Handy
import Derived.Deep.MidRow
import Derived.Outline
import Derived.Deep.CutBlock
import Derived.Lib.LaidTab
import Derived.ProofKit
import Derived.OpenShut
import Derived.Deep.DeepHandedRow
import Derived.StillTailTactics
import Derived.Deep.CutRange
import Derived.BigQuiet
import Derived.Laws.CopyOwn
import Derived.Deep.Slices
import Derived.Deep.Fields
import Derived.ChangeSame
import Derived.SizedLaws
import Derived.Maps.AppendAt
import Derived.Deep.DeepMust
import Derived.IntWalk
import Derived.Laws.IdiomStrings
import Derived.RowKit
import Derived.Deep.QuietTactic
import Derived.RegionTactic
import Derived.ChangeAlike
import Derived.BigRegion
import Derived.Deep.RegionHeld3
import Derived.Deep.DrawnRows
import Derived.StillTail
import Derived.Deep.RegionHeldLaw
import Derived.Deep.AppendLies
import Derived.Lib.DecodeN
import Derived.OrdersHeld
import Derived.Deep.OwnRows
import Derived.Lib.OthersKept
import Derived.Laws.RangeAny
import Derived.Lib.AppendStr
import Derived.Laws.Runes
namespace Go.Proofs.YtogdknnkhkjmcaaGreatDoor
open Go.RowKit
set_option linter.all false
set_option maxRecDepth 1000000
theorem c209 {p:Prop}(h:p:=by
 refine(take_full p u _ _ (by omega) (by omega) h0 hu (by omega) h3).mono ?_
 rintro e w2 ⟨rfl,hk2⟩;unfold V6.val;clear c0 c1 c2 c3 c4 c5 c6 c7 c8 c9 c10 c11 c12 c13 c14 d0 d1 d2 d3 d4 d5;have l1:=hC1.lt;have l2:=hC2.lt;have l0:=hC0.lt;have hD1:=hC1.keep hk2 l1;have hD2:=hC2.keep hk2 l2;have hkk2:=hkk.trans (hk2.mono fun b hb=>by omega)
 have hz2:=hk2.size;clear hC0 hC1 hC2 hBc hkk hk2;obtain⟨d0,d1,d2,d3,d4,d5⟩:=hD1.c6;obtain⟨z0,z1,z2,z3,z4,z5⟩:=hD2.c6;have f1:=hD1.free;have f2:=hD2.free
 go_wp2_with fail
 refine wp_gen (fun W=>Blk W (w.heap.size+1) [I 0,I 0,I 0,I 0,I 0,I 0]∧Blk W (w.heap.size+1+1) [I 0,I 0,I 0,I 0,I 0,I 0]∧Keeps (· <w.heap.size) w W) ⟨?_,?_,?_⟩ ?_
 ·exact c53
 ·exact bA
 ·exact kA
 clear hD1 hD2 hkk2 d0 d1 d2 d3 d4 d5 z0 z1 z2 z3 z4 z5 f1 f2;rintro W2 ⟨hD1,hD2,hkk2⟩;obtain⟨d0,d1,d2,d3,d4,d5⟩:=hD1.c6;obtain⟨z0,z1,z2,z3,z4,z5⟩:=hD2.c6;have f2:=hD2.free
 go_region
 go_wp2_with fail
 refine bp_gen (fun W=>Blk W (w.heap.size+1+1) [I 0,I 0,I 0,I 0,I 0,I 0]∧Keeps (· <w.heap.size) w W) ⟨?_,?_⟩ ?_
 ·first|with_reducible exact Blk.set6 hD2 _ _ _ _ _ _ (by simp)|with_reducible exact(Blk.set6 hD2 _ _ _ _ _ _ (by simp)).drew
 ·exact kA
 clear hD1 hD2 hkk2 d0 d1 d2 d3 d4 d5 z0 z1 z2 z3 z4 z5 f2;rintro W3 ⟨hD2,hkk2⟩;obtain⟨d0,d1,d2,d3,d4,d5⟩:=hD2.c6;refine bodyPost_ret (v:= .tuple #[I 0,.agg #[I 0,I 0,I 0,I 0,I 0,I 0],I 3]) ?_ rfl ?_
 ·simp[results,Tryz.results81,go_sem,d0,d1,d2,d3,d4,d5]
 ·exact hR'.out _ _ ⟨rfl,H.out.below hkk2,hkk2.mono H.out.lt⟩):p:=h
theorem c210 {p:Prop}(h:p:=by
 refine(take_book p u _ _ (by omega) h0 (by omega) h3 ⟨b0,b1⟩).mono ?_
 rintro e w2 ⟨rfl,hk2⟩;unfold V6.val;clear c0 c1 c2 c3 c4 c5 c6 c7 c8 c9 c10 c11 c12 c13 c14 d0 d1 d2 d3 d4 d5;have l1:=hC1.lt;have l2:=hC2.lt;have l0:=hC0.lt;have lc:=hBc.lt;have hD1:=hC1.keep hk2 l1;have hD2:=hC2.keep hk2 l2;have hDc:=hBc.keep hk2 lc;have hkk2:=hkk.trans (hk2.mono fun b hb=>by omega)
 have hz2:=hk2.size;clear hC0 hC1 hC2 hBc hkk hk2;rw[HC.out]at hDc;generalize hU:u.a4+(2+((t.size:Int)+3)/4)=u4 at*;generalize hA:p.base.a4+u.a4=ad at*;have ha0:0≤ad∧ad≤131072:=by omega
 obtain⟨a0,a1⟩:=ha0;have HU:=hid hU;have HA:=hid hA;clear hU hA;obtain⟨d0,d1,d2,d3,d4,d5⟩:=hD1.c6;have f1:=hD1.free
 go_wp2_with fail
 refine calls_gen (fun W=>Blk W (w.heap.size+1) [I u.a0,I u.a1,I u.a2,I u.a3,I u4,I u.a5]∧Blk W (w.heap.size+1+1) [I 0,I 0,I 0,I 0,I 0,I 0]∧Blk W bc (C.map (Value.int .u32))∧Keeps (· <w.heap.size) w W) ⟨?_,?_,?_,?_⟩ ?_
 ·exact c53
 ·exact bA
 ·exact bA
 ·exact kA
 clear hD1 hD2 hDc hkk2 d0 d1 d2 d3 d4 d5 f1;rintro W2 ⟨hD1,hD2,hDc,hkk2⟩;have hR2:=H.out.moreB hkk2;have hKK:∀b,K b→(K b∨(w.heap.size≤b∧b<W2.heap.size)):=fun b hb=>Or.inl hb;have hg1:(K (w.heap.size+1)∨(w.heap.size≤w.heap.size+1∧w.heap.size+1<W2.heap.size)):=Or.inr ⟨by omega,hD1.lt⟩
 have hg2:(K (w.heap.size+1+1)∨(w.heap.size≤w.heap.size+1+1∧w.heap.size+1+1<W2.heap.size)):=Or.inr ⟨by omega,hD2.lt⟩
 have hgc:(K bc∨(w.heap.size≤bc∧bc<W2.heap.size)):=Or.inr ⟨by omega,hDc.lt⟩
 have hltw:=H.out.lt;generalize hK1:(fun b=>K b∨(w.heap.size≤b∧b<W2.heap.size))=K1 at*;have hKK':∀b,K b→K1 b:=by rw[←hK1];exact hKK
 have hg1':K1 (w.heap.size+1):=by rw[←hK1];exact hg1
 have hg2':K1 (w.heap.size+1+1):=by rw[←hK1];exact hg2
 have hgc':K1 bc:=by rw[←hK1];exact hgc
 have hkw:Keeps K w W2:=hkk2.mono hltw;clear hKK hg1 hg2 hgc hK1 hkk2 hltw;have HKK':=hid hKK';have Hg1':=hid hg1';have Hg2':=hid hg2';have Hgc':=hid hgc';have Hkw:=hid hkw;have HD1:=hid hD1;have HD2:=hid hD2;have HDc:=hid hDc;clear hKK' hg1' hg2' hgc' hkw hD1 hD2 hDc;refine(step_store hR2 (ad+1) t.size (by unfold U32;omega)).mono ?_
 rintro e w3 ⟨rfl,hr3,hk3⟩;have Hr3:=hid hr3;have Hk3:=hid hk3;clear hr3 hk3;clear hR2
 go_wp2_with fail
 have hresC:((storesD ad (C.drop 0) 0).bind fun _=>Tree.store (s0+sl) ad (.ret ())).exec (s.store (ad+1) t.size)=res:=Hres.out;have HresC:=hid hresC;clear hresC
 go_loopw[45] (fun j wr=>∃(q:Nat) (s3:St),j=I q∧q≤(t.size+3)/4∧RM wr K1 r m c s3∧Keeps K1 W2 wr∧
  ((storesD ad (C.drop q) q).bind fun _=>Tree.store (s0+sl) ad (.ret ())).exec s3=res) (fun j _=>(t.size+3)/4-(intOf j).toNat)
 case atStart=>exact⟨0,_,rfl,Nat.zero_le _,Hr3.out,Hk3.out,HresC.out⟩
 case round=>
  obtain⟨q,s3,rfl,hq,hR3,hK3,hex3⟩:=hrel;have HR3:=hid hR3;have HK3:=hid hK3;clear hR3 hK3
  by_cases hqlt:q<(t.size+3)/4
  ·have hCq:q<C.length:=by rw[Hpl.out];exact hqlt
   have hd:C.drop q=C[q]::C.drop (q+1):=List.drop_eq_getElem_cons hCq;have hcell:wr.cell? ⟨bc,q,none⟩=some (J C[q]):=by
    rw[World.cell?_of_block (a:=⟨bc,q,none⟩) (HK3.out.block bc Hgc'.out),HDc.out.cell,List.getElem?_map,List.getElem?_eq_getElem hCq];rfl
   have zz133:=@c660;exact c659
  ·have hqn:C.drop q=[]:=List.drop_of_length_le (by rw[Hpl.out];omega)
   rw[hqn]at hex3;have hfin:((),s3.store (s0+sl) ad)=res:=hex3;clear hex3 hqn;have Hfin:=hid hfin;clear hfin
   go_wp2_with fail
   refine(step_store HR3.out (s0+sl) ad (by unfold U32;omega)).mono ?_
   rintro e w6 ⟨rfl,hr6,hk6⟩;have hk6':=HK3.out.trans hk6;have hE1:=HD1.out.keep hk6' Hg1'.out;have hE2:=HD2.out.keep hk6' Hg2'.out;have hkf:Keeps K w w6:=Hkw.out.trans (hk6'.mono HKK'.out);have hrf:RM w6 K r m c res.2:=by rw[←Hfin.out];exact hr6.mono HKK'.out
   have hKno:∀b,K b→b<w.heap.size:=H.out.lt;have Hkf:=hid hkf;have HKno:=hid hKno;have Hr6:=hid hr6;clear hkf hKno hr6;clear hrf hk6 hk6';obtain⟨d0,d1,d2,d3,d4,d5⟩:=hE1.c6;obtain⟨z0,z1,z2,z3,z4,z5⟩:=hE2.c6;have f2:=hE2.free
   go_wp2_with fail
   go_region
   go_wp2_with fail
   refine bp_gen (fun W=>Blk W (w.heap.size+1+1) [I u.a0,I u.a1,I u.a2,I u.a3,I u4,I u.a5]∧Keeps K w W∧RM W K1 r m c (s3.store (s0+sl) ad)) ⟨?_,?_,?_⟩ ?_
   ·exact c75
   ·repeat(first|with_reducible exact Hkf.out|with_reducible refine Keeps.drew ?_|with_reducible refine Keeps.setCell ?_ ?_ _)
    all_goals(intro hb;have:=HKno.out _ hb;simp at this;omega)
   ·repeat(first|with_reducible exact Hr6.out|with_reducible exact Hg2'.out|with_reducible refine RM.drew ?_|with_reducible refine RM.setK ?_ ?_ _)
    all_goals exact Hg2'.out
   clear hE1 hE2 f2 d0 d1 d2 d3 d4 d5 z0 z1 z2 z3 z4 z5;rintro W3 ⟨hE2,hkf,hrf⟩;obtain⟨d0,d1,d2,d3,d4,d5⟩:=hE2.c6;refine bodyPost_ret (v:= .tuple #[I ad,.agg #[I u.a0,I u.a1,I u.a2,I u.a3,I u4,I u.a5],I 0]) ?_ rfl ?_
   ·simp[results,Tryz.results81,go_sem,d0,d1,d2,d3,d4,d5]
   ·refine hR'.out _ _ ⟨?_,?_,hkf⟩
    ·rw[←HU.out];simp;rfl
    ·rw[←Hfin.out];exact hrf.mono HKK'.out):p:=h
theorem c211 {p:Prop}(h:p:=by
 have hpl:=fun W (hk:Keeps (· <w.heap.size) w W)=>ref12_place cs segs wt wv u0 u1 u2 u3 u4 u5 id A cp A2 cp2 W K (fun b hb9=>Nat.lt_of_lt_of_le (hb b hb9) hk.size) (hsl.keep hk hb) hcn (hs2.keep hk hb) hok hn;rw[hq]at hpl;dsimp only at hpl;have Hb:=hid hb;have Hsl:=hid hsl;have Hs2:=hid hs2;have Hok:=hid hok;have Hpl:=hid hpl;clear hb hsl hs2 hok hpl;refine calls_hide fun R' hR'=>?_
 go_enter Tryz.func37,Tryz.ntmps37
 go_wp2_with fail
 refine calls_gen (fun W=>Blk W w.heap.size [.slice A cs.length cp,.slice A2 segs.length cp2,I wt,J wv,I u0,I u1,I u2,I u3,I u4,I u5]∧Blk W (w.heap.size+1) st0∧Keeps (· <w.heap.size) w W) ⟨?_,?_,?_⟩ (fun W0 HW=>?_)
 ·exact bA
 ·unfold st0;exact bA
 ·exact kA
 obtain⟨hA0,hA1,hkA⟩:=HW;refine(Hpl.out W0 hkA).mono ?_;rintro e w1 ⟨rfl,hk1⟩;have hB0:=hA0.keep hk1 hA0.lt;have hB1:=hA1.keep hk1 hA1.lt;have hkB:Keeps (· <w.heap.size) w w1:=hkA.trans (hk1.mono fun b hb=>Nat.lt_of_lt_of_le hb hkA.size);generalize hBB:w.heap.size=B at*;clear hA0 hA1 hkA hk1 Hpl;exact zz20):p:=h
theorem c212 {p:Prop}(h:p:=by
 have hc1:=hB0;obtain⟨y0,y1,y2,y3,y4,y5,y6,y7,y8,y9⟩:=hc1.c10;have hz:=hB1;unfold st0 at hz;obtain⟨z0,z1,z2,z3,z4,z5,z6,z7,z8,z9⟩:=hz.c10;have f:=hz.free;clear hc1 hz;have HB0:=hid hB0;have HB1:=hid hB1;have HkB:=hid hkB;clear hB0 hB1 hkB
 go_upto_region 3 with fail
 go_region
 iterate 2 (first|go_values|go_skip|go_guarded|go_step|go_upon|go_back)
 go_step
 have hE:=(blk_out10 HB1.out rfl (.slice A cs.length cp) (.slice A2 segs.length cp2) (I wt) (J wv) (I u0) (I u1) (I u2) (I u3) (I u4) (I u5)).drew;have hkk:=(keeps_out10 (b:=B+1) HkB.out (fun h=>by have h:B+1<B:=h;omega) (.slice A cs.length cp) (.slice A2 segs.length cp2) (I wt) (J wv) (I u0) (I u1) (I u2) (I u3) (I u4) (I u5)).drew
 have hkn:=(keeps_out10 (K:=(· ≠B+1)) (b:=B+1) (Keeps.refl _ w1) (fun h=>h rfl) (.slice A cs.length cp) (.slice A2 segs.length cp2) (I wt) (J wv) (I u0) (I u1) (I u2) (I u3) (I u4) (I u5)).drew;generalize ((((((((((w1.setCell ⟨B+1,0,none⟩ (.slice A cs.length cp)).setCell ⟨B+1,1,none⟩ (.slice A2 segs.length cp2)).setCell ⟨B+1,2,none⟩ (I wt)).setCell ⟨B+1,3,none⟩ (J wv)).setCell ⟨B+1,4,none⟩ (I u0)).setCell ⟨B+1,5,none⟩ (I u1)).setCell ⟨B+1,6,none⟩ (I u2)).setCell ⟨B+1,7,none⟩ (I u3)).setCell ⟨B+1,8,none⟩ (I u4)).setCell ⟨B+1,9,none⟩ (I u5)).drew=WZ at*
 obtain⟨d0,d1,d2,d3,d4,d5,d6,d7,d8,d9⟩:=hE.c10;refine bodyPost_ret (v:= .tuple #[I 7,.agg #[.slice A cs.length cp,.slice A2 segs.length cp2,I wt,J wv,I u0,I u1,I u2,I u3,I u4,I u5]]) ?_ rfl ?_
 ·exact c150
 ·exact c95):p:=h
theorem c213 {p:Prop}(h:p:=by
 obtain⟨bs,os,rfl,hkb,gx⟩:=SlAt.rec (SegM.len3 segs) Hs2.out p x hx;have hbsl:=Hb.out bs hkb;have a0:=(World.cell?_of_block (a:=⟨bs,os+p*3+0,none⟩) (hkB.block bs hbsl)).trans (gx 0 _ rfl);have a1:=(World.cell?_of_block (a:=⟨bs,os+p*3+1,none⟩) (hkB.block bs hbsl)).trans (gx 1 _ rfl);have a2:=(World.cell?_of_block (a:=⟨bs,os+p*3+2,none⟩) (hkB.block bs hbsl)).trans (gx 2 _ rfl)
 simp only[Nat.add_zero]at a0;have hpl9:=(List.getElem?_eq_some_iff.1 hx).1;have hpI:(p:Int)<(segs.length:Int):=by omega
 obtain⟨⟨x0,x1⟩,x2⟩:=Hok.out x (List.mem_of_getElem? hx);have hBase:=fun W=>ref12_base x W (by unfold Small;omega)
 have hbsm:=Small.base ⟨x0,x1⟩;obtain⟨xa,xd,xs⟩:=x;dsimp only at a0 a1 a2 hBase hqa hbsm;generalize SegM.base ⟨xa,xd,xs⟩=xb at*;obtain⟨xb0,xb1⟩:=hbsm;obtain⟨hv0,hv1⟩:=hv;obtain⟨hd0,hd1⟩:=hd;have hw1:IntKind.i64.wrap (4*d)=4*d:=IntWalk.i64_in _ (by omega)
 have hw2:IntKind.i64.wrap (xb+4*d)=xb+4*d:=IntWalk.i64_in _ (by omega)
 have hw3:IntKind.i64.wrap (xb+4*d+3)=(q:Int):=by rw[IntWalk.i64_in _ (by omega)];exact hqa
 have Hqa:=hid hqa;clear hqa gx;have hcc:=hB0;obtain⟨y0,y1,y2,y3,y4,y5,y6,y7,y8,y9⟩:=hcc.c10;clear hcc;have HB0:=hid hB0;have HB1:=hid hB1;have HkB:=hid hkB;have HBase:=hid hBase;clear hB0 hB1 hkB hBase
 go_wp2_with fail
 refine(HBase.out w1).mono ?_;rintro e w2 ⟨rfl,hk2⟩;have hC0:=HB0.out.keep hk2 HB0.out.lt;have hC1:=HB1.out.keep hk2 HB1.out.lt;have hkC:Keeps (· <B) w w2:=HkB.out.trans (hk2.mono fun b hb=>by have:=HB1.out.lt;omega)
 clear HB0 HB1 HkB hk2 a0 a1 a2 y0 y1 y2 y3 y4 y5 y6 y7 y8 y9 HBase;obtain⟨A',cap,e1,e2,e3,e4,e5⟩:=Hsl.out;injection e1 with e1 _ e1c
 subst e1 e1c;obtain⟨cb,co,rfl,hcb,hcell⟩:=e5 hn0;have hcbl:=Hb.out cb hcb;obtain⟨cv,hcv⟩:∃cv,cs[q]? =some cv:=⟨_,List.getElem?_eq_getElem hql⟩;have q0:=(World.cell?_of_block (a:=⟨cb,co+q,none⟩) (hkC.block cb hcbl)).trans (hcell q _ (by rw[List.getElem?_map,hcv];rfl))
 have hcd:cs.getD q 0=cv:=by rw[List.getD_eq_getElem?_getD,hcv];rfl
 rw[hcd]at hR';have hqI:(q:Int)<(cs.length:Int):=by omega
 have hqn:¬(q:Int)<0:=by omega
 have hqd0:decide ((q:Int)<0)=false:=decide_eq_false (by omega)
 have hqd1:decide ((cs.length:Int)≤(q:Int))=false:=decide_eq_false (by omega)
 clear e2 e3 e4 e5 hcell hcv hcd
 by_cases hz9:cv=0
 ·subst hz9;have hcc:=hC0;obtain⟨y0,y1,y2,y3,y4,y5,y6,y7,y8,y9⟩:=hcc.c10;clear hcc;have HCP:=hid (fun W (hk:Keeps (· <B) w W)=>ref12_copied cs segs wt wv u0 u1 u2 u3 u4 u5 (some ⟨cb,co,none⟩) cp (some ⟨bs,os,none⟩) cp2 W K (fun b hb9=>Nat.lt_of_lt_of_le (Hb.out b hb9) (by rw[←hBB]at*;exact hk.size)) (Hsl.out.keep hk Hb.out) hn0 hcn (Hs2.out.keep hk Hb.out) hl0 hn)
  have HC0:=hid hC0;have HC1:=hid hC1;have HkC:=hid hkC;clear hC0 hC1 hkC
  go_wp2_with fail
  refine(HCP.out w2 HkC.out).mono ?_;rintro e w3 ⟨NB,A3,cp3,rfl,hge,hN3,ho3,hne3,hk3⟩;have hD1:=HC1.out.keep hk3 HC1.out.lt;have hkD:Keeps (· <B) w w3:=HkC.out.trans (hk3.mono fun b hb=>by have:=HC1.out.lt;omega)
  have hBN:B+1<NB:=by have:=HC1.out.lt;omega
  have hog:∀b,(Value.slice A3 segs.length cp3).ownBlock=some b→B+1<b:=fun b hb=>by have:=(ownB_lt ho3 hb).1;have:=HC1.out.lt;omega
  clear HC0 HC1 HkC HCP hk3 y0 y1 y2 y3 y4 y5 y6 y7 y8 y9 q0 hqd0 hqd1 hqI hqn;have Hge:=hid hge;have HN3:=hid hN3;have Ho3:=hid ho3;have Hne3:=hid hne3;have HD1:=hid hD1;have HkD:=hid hkD;have Hog:=hid hog;clear hge hN3 ho3 hne3 hD1 hkD hog
  go_upto_region 8 with fail
  have hka:Keeps (· <w3.heap.size) w3 (w3.alloc (.cells #[.slice (some ⟨NB,0,none⟩) cs.length cs.length,.slice A3 segs.length cp3,I wt,J wv,I u0,I u1,I u2,I u3,I u4,I u5] 49)):=(Keeps.refl _ _).alloc (fun b hb=>hb) _;have hT4:=Blk.new w3 [.slice (some ⟨NB,0,none⟩) cs.length cs.length,.slice A3 segs.length cp3,I wt,J wv,I u0,I u1,I u2,I u3,I u4,I u5] 49;have hN4:=HN3.out.keep hka HN3.out.lt
  have ho4:=own_of_keep (own_any Ho3.out) hka fun b hb=>(ownB_lt Ho3.out hb).2;have hD4:=HD1.out.keep hka HD1.out.lt;have hkE:=HkD.out.trans (hka.mono fun b hb=>by have:=HD1.out.lt;omega)
  have hTN:NB<w3.heap.size:=HN3.out.lt;have hoT:∀b,(Value.slice A3 segs.length cp3).ownBlock=some b→b<w3.heap.size:=fun b hb=>(ownB_lt Ho3.out hb).2;clear HN3 Ho3 HD1 HkD hka;generalize hTB:w3.heap.size=TB at*;generalize w3.alloc (.cells #[.slice (some ⟨NB,0,none⟩) cs.length cs.length,.slice A3 segs.length cp3,I wt,J wv,I u0,I u1,I u2,I u3,I u4,I u5] 49)=w4 at*
  have hw5:IntKind.u32.wrap (wv+1)=wv+1:=IntWalk.u32_in _ (by omega)
  have hc3:=hT4;obtain⟨y0,y1,y2,y3,y4,y5,y6,y7,y8,y9⟩:=hc3.c10;have f3:=hT4.free 3;have hT5:Blk (w4.setCell ⟨TB,3,none⟩ (J (wv+1))) TB [.slice (some ⟨NB,0,none⟩) cs.length cs.length,.slice A3 segs.length cp3,I wt,J (wv+1),I u0,I u1,I u2,I u3,I u4,I u5]:=hT4.set 3 (J (wv+1));have hN5:=hN4.set_ne (a:=⟨TB,3,none⟩) (J (wv+1)) (by show NB≠TB;omega)
  have hD5:=hD4.set_ne (a:=⟨TB,3,none⟩) (J (wv+1)) (by show B+1≠TB;omega)
  have ho5:=ownsRow_setCell_other ho4 (a:=⟨TB,3,none⟩) (fun e=>by have:=hoT TB e;omega) (J (wv+1))
  have hkF:=hkE.setCell (p:=⟨TB,3,none⟩) (fun h=>by have h:TB<B:=h;omega) (J (wv+1))
  clear hc3 hT4 hN4 hD4 ho4 hkE;have HT5:=hid hT5;have HN5:=hid hN5;have HD5:=hid hD5;have Ho5:=hid ho5;have HkF:=hid hkF;have HoT:=hid hoT;clear hT5 hN5 hD5 ho5 hkF hoT
  go_upto_region 9 with fail
  generalize w4.setCell ⟨TB,3,none⟩ (J (wv+1))=w5 at*;clear y0 y1 y2 y3 y4 y5 y6 y7 y8 y9 f3;have hlx:(cs.map (Value.int .u32)).length=cs.length:=List.length_map ..;have hin:(q:Int)<(cs.length:Int):=by omega
  have hin0:¬(q:Int)<0:=by omega
  have hd9:decide ((q:Int)<0)=false:=decide_eq_false (by omega)
  have hd8:decide ((cs.length:Int)≤(q:Int))=false:=decide_eq_false (by omega)
  obtain⟨old,hold⟩:∃x,(cs.map (Value.int .u32))[q]? =some x:=⟨_,List.getElem?_eq_getElem (by rw[hlx];omega)⟩
  have hcell:=(HN5.out.cell q).trans hold;have hfr:=HN5.out.free q;have hc3:=HT5.out;obtain⟨y0,y1,y2,y3,y4,y5,y6,y7,y8,y9⟩:=hc3.c10;have hN6:=HN5.out.set q (J (wv+1));rw[←List.map_set]at hN6;have hT6:=HT5.out.set_ne (a:=⟨NB,q,none⟩) (J (wv+1)) (by show TB≠NB;omega)
  have hD6:=HD5.out.set_ne (a:=⟨NB,q,none⟩) (J (wv+1)) (by show B+1≠NB;omega)
  have ho6:=ownsRow_setCell_other Ho5.out (a:=⟨NB,q,none⟩) (fun e=>Hne3.out NB e rfl) (J (wv+1));have hkG:=HkF.out.setCell (p:=⟨NB,q,none⟩) (fun h=>by have h:NB<B:=h;omega) (J (wv+1))
  clear hold hc3 HN5 HT5 HD5 Ho5 HkF hlx;have HN6:=hid hN6;have HT6:=hid hT6;have HD6:=hid hD6;have Ho6:=hid ho6;have HkG:=hid hkG;clear hN6 hT6 hD6 ho6 hkG
  go_upto_region 10 with fail
  generalize w5.setCell ⟨NB,q,none⟩ (J (wv+1))=w6 at*;clear y0 y1 y2 y3 y4 y5 y6 y7 y8 y9 hcell hfr hin hin0 hd9 hd8;have hlx:((cs.set q (wv+1)).map (Value.int .u32)).length=cs.length:=by simp
  have hin:(1:Int)<(cs.length:Int):=by omega
  have hd8:decide ((cs.length:Int)≤1)=false:=decide_eq_false (by omega)
  obtain⟨old,hold⟩:∃x,((cs.set q (wv+1)).map (Value.int .u32))[1]? =some x:=⟨_,List.getElem?_eq_getElem (by rw[hlx];omega)⟩
  have hcell:=(HN6.out.cell 1).trans hold;have hfr:=HN6.out.free 1;have hc3:=HT6.out;obtain⟨y0,y1,y2,y3,y4,y5,y6,y7,y8,y9⟩:=hc3.c10;have hN7:=HN6.out.set 1 (J (wv+1));rw[←List.map_set]at hN7;have hT7:=HT6.out.set_ne (a:=⟨NB,1,none⟩) (J (wv+1)) (by show TB≠NB;omega)
  have hD7:=HD6.out.set_ne (a:=⟨NB,1,none⟩) (J (wv+1)) (by show B+1≠NB;omega)
  have ho7:=ownsRow_setCell_other Ho6.out (a:=⟨NB,1,none⟩) (fun e=>Hne3.out NB e rfl) (J (wv+1));have hkH:=HkG.out.setCell (p:=⟨NB,1,none⟩) (fun h=>by have h:NB<B:=h;omega) (J (wv+1))
  clear hold hc3 HN6 HT6 HD6 Ho6 HkG hlx;have HN7:=hid hN7;have HT7:=hid hT7;have HD7:=hid hD7;have Ho7:=hid ho7;have HkH:=hid hkH;clear hN7 hT7 hD7 ho7 hkH
  go_upto_region 11 with fail
  generalize w6.setCell ⟨NB,1,none⟩ (J (wv+1))=w7 at*;clear y0 y1 y2 y3 y4 y5 y6 y7 y8 y9 hcell hfr hin hd8;have hc3:=HT7.out;obtain⟨y0,y1,y2,y3,y4,y5,y6,y7,y8,y9⟩:=hc3.c10;have hz:=HD7.out;unfold st0 at hz;obtain⟨z0,z1,z2,z3,z4,z5,z6,z7,z8,z9⟩:=hz.c10;have f:=hz.free;clear hc3 hz
  go_region
  iterate 2 (first|go_values|go_skip|go_guarded|go_step|go_upon|go_back)
  go_step
  have hE:=(blk_out10 HD7.out rfl (.slice (some ⟨NB,0,none⟩) cs.length cs.length) (.slice A3 segs.length cp3) (I wt) (J (wv+1)) (I u0) (I u1) (I u2) (I u3) (I u4) (I u5)).drew;have hkk:=(keeps_out10 (b:=B+1) HkH.out (fun h=>by have h:B+1<B:=h;omega) (.slice (some ⟨NB,0,none⟩) cs.length cs.length) (.slice A3 segs.length cp3) (I wt) (J (wv+1)) (I u0) (I u1) (I u2) (I u3) (I u4) (I u5)).drew
  have hkn:=(keeps_out10 (K:=(· ≠B+1)) (b:=B+1) (Keeps.refl _ w7) (fun h=>h rfl) (.slice (some ⟨NB,0,none⟩) cs.length cs.length) (.slice A3 segs.length cp3) (I wt) (J (wv+1)) (I u0) (I u1) (I u2) (I u3) (I u4) (I u5)).drew;generalize ((((((((((w7.setCell ⟨B+1,0,none⟩ (.slice (some ⟨NB,0,none⟩) cs.length cs.length)).setCell ⟨B+1,1,none⟩ (.slice A3 segs.length cp3)).setCell ⟨B+1,2,none⟩ (I wt)).setCell ⟨B+1,3,none⟩ (J (wv+1))).setCell ⟨B+1,4,none⟩ (I u0)).setCell ⟨B+1,5,none⟩ (I u1)).setCell ⟨B+1,6,none⟩ (I u2)).setCell ⟨B+1,7,none⟩ (I u3)).setCell ⟨B+1,8,none⟩ (I u4)).setCell ⟨B+1,9,none⟩ (I u5)).drew=WZ at*
  obtain⟨d0,d1,d2,d3,d4,d5,d6,d7,d8,d9⟩:=hE.c10;refine bodyPost_ret (v:= .tuple #[I 0,.agg #[.slice (some ⟨NB,0,none⟩) cs.length cs.length,.slice A3 segs.length cp3,I wt,J (wv+1),I u0,I u1,I u2,I u3,I u4,I u5]]) ?_ rfl ?_
  ·exact c150
  ·refine hR'.out _ _ ⟨?_,hkk⟩;rw[if_neg (fun h=>h rfl)];exact⟨NB,A3,cp3,rfl,by omega,HN7.out.keep hkn (by show NB≠B+1;omega),own_base (own_of_keep Ho7.out hkn fun b hb=>by have:=Hog.out b hb;show b≠B+1;omega) fun b hb=>by have:=Hog.out b hb;omega⟩
 ·have hzb:(cv !=0)=true:=by simpa using hz9
  have HZ9:=hid hz9;clear hz9;have hc1:=hC0;obtain⟨y0,y1,y2,y3,y4,y5,y6,y7,y8,y9⟩:=hc1.c10;have hz:=hC1;unfold st0 at hz;obtain⟨z0,z1,z2,z3,z4,z5,z6,z7,z8,z9⟩:=hz.c10;have f:=hz.free;clear hc1 hz;have HC0:=hid hC0;have HC1:=hid hC1;have HkC:=hid hkC;clear hC0 hC1 hkC
  go_upto_region 6 with fail
  go_region
  iterate 2 (first|go_values|go_skip|go_guarded|go_step|go_upon|go_back)
  go_step
  have hE:=(blk_out10 HC1.out rfl (.slice (some ⟨cb,co,none⟩) cs.length cp) (.slice (some ⟨bs,os,none⟩) segs.length cp2) (I wt) (J wv) (I u0) (I u1) (I u2) (I u3) (I u4) (I u5)).drew;have hkk:=(keeps_out10 (b:=B+1) HkC.out (fun h=>by have h:B+1<B:=h;omega) (.slice (some ⟨cb,co,none⟩) cs.length cp) (.slice (some ⟨bs,os,none⟩) segs.length cp2) (I wt) (J wv) (I u0) (I u1) (I u2) (I u3) (I u4) (I u5)).drew
  have hkn:=(keeps_out10 (K:=(· ≠B+1)) (b:=B+1) (Keeps.refl _ w2) (fun h=>h rfl) (.slice (some ⟨cb,co,none⟩) cs.length cp) (.slice (some ⟨bs,os,none⟩) segs.length cp2) (I wt) (J wv) (I u0) (I u1) (I u2) (I u3) (I u4) (I u5)).drew;generalize ((((((((((w2.setCell ⟨B+1,0,none⟩ (.slice (some ⟨cb,co,none⟩) cs.length cp)).setCell ⟨B+1,1,none⟩ (.slice (some ⟨bs,os,none⟩) segs.length cp2)).setCell ⟨B+1,2,none⟩ (I wt)).setCell ⟨B+1,3,none⟩ (J wv)).setCell ⟨B+1,4,none⟩ (I u0)).setCell ⟨B+1,5,none⟩ (I u1)).setCell ⟨B+1,6,none⟩ (I u2)).setCell ⟨B+1,7,none⟩ (I u3)).setCell ⟨B+1,8,none⟩ (I u4)).setCell ⟨B+1,9,none⟩ (I u5)).drew=WZ at*
  obtain⟨d0,d1,d2,d3,d4,d5,d6,d7,d8,d9⟩:=hE.c10;refine bodyPost_ret (v:= .tuple #[I 7,.agg #[.slice (some ⟨cb,co,none⟩) cs.length cp,.slice (some ⟨bs,os,none⟩) segs.length cp2,I wt,J wv,I u0,I u1,I u2,I u3,I u4,I u5]]) ?_ rfl ?_
  ·exact c150
  ·refine hR'.out _ _ ⟨?_,hkk⟩;rw[if_pos HZ9.out]):p:=h
theorem c214 {p:Prop}(h:p:=by
 have f1:=hO.free;have hsl:Calls Tryz.prog 105 #[I ((3:Nat):Int)] wr.drew fun e w'=>e= .returned (I 256)∧w'=wr.drew:=slab_call 3 (by omega) wr.drew (show PTab wr.drew from hTb)
 simp only[szK]at hszb hbk;have hb2:0≤o.a3∧o.a3+256*((f:Int)+1)≤10000000:=by have:=hbk;simp only[V6.uK]at this;omega
 have zz96:=@c525;exact c524):p:=h
theorem c215 {p:Prop}(h:p:=by
 refine calls_gen (fun W=>PTab W∧Blk W (B+1+1) [I o.a0,I o.a1,I o.a2,I (o.a3+256),I o.a4,I o.a5]∧Keeps (fun b=>b<w1.heap.size∧b≠B+1+1) w1 W) ⟨?_,?_,?_⟩ (fun W HW=>?_)
 ·exact c22
 ·exact c56
 ·exact c16
 exact c420):p:=h
theorem c216 {p:Prop}(h:p:=by
 refine calls_gen (fun W=>PTab W∧Blk W (B+1+1) [I o.a0,I o.a1,I o.a2,I (o.a3+256),I o.a4,I o.a5]∧Keeps (fun b=>b<w5.heap.size∧b≠B+1+1) w5 W) ⟨?_,?_,?_⟩ (fun W HW=>?_)
 ·exact c22
 ·exact c56
 ·exact c16
 exact c420):p:=h
theorem c217 {p:Prop}(h:p:=by
 obtain⟨⟨⟨hn,hc⟩,hs⟩,hall⟩:=hB;have hn':n<l.toArray.size:=by simpa using hn
 have hdep:∀i o,i<n→l[i]? =some o→∀e∈o.after,Region.binds md e=true→e.on<i:=fun i o hi ho e he hb=>by
  exact c128
 have hg:∀i o,i<n→l[i]? =some o→∀j b,o.guard=some (j,b)→j<n:=fun i o hi ho j b hgd=>by
  exact c149
 have done:∀(f:Nat) (listed:Array Bool) (a:Act) (w:World),HeadInv md l.toArray n listed→(∀i,i<n→listed.getD i true=true)→
   wpAnyH P md l.toArray Q Su (l.length-n) (Array.replicate n true++Array.replicate (l.length-n) false) a w→wpAnyH P md l.toArray Q Su (f+(l.length-n)) listed a w:=by
  intro f listed a w inv hA h;have hsz:listed.size=l.length:=by rw[inv.size];simp
  have el:listed=Array.replicate n true++Array.replicate (l.length-n) false:=by
   apply Array.ext
   ·simp[hsz];omega
   ·exact c91
  rw[el];exact wpAnyH_mores _ _ _ _ h f
 intro f;exact zz22):p:=h
theorem c218 {p:Prop}(h:p:=by
 induction f with
 |zero=>
  exact c72
 |succ f ih=>
  intro L listed a w inv hpre hL hLL h
  by_cases hA:∀i,i<n→listed.getD i true=true
  ·exact c99
  ·obtain⟨i0,hi0,hu0,hm0⟩:=min_unlisted hA;have hsz:listed.size=l.length:=by rw[inv.size];simp
   have hr0:i0∈Region.ready md l.toArray listed:=by
    exact c145
   rw[show f+1+(l.length-n)=(f+(l.length-n))+1 by omega]
   refine⟨fun h0=>(by rw[h0]at hr0;cases hr0),fun i hi=>?_⟩
   have hin:i<n:=by
    rcases Nat.lt_or_ge i n with h1|h1
    ·exact h1
    ·exact absurd hi (waits_head hB' inv hpre _ i0 rfl hi0 hu0 i h1)
   exact c38):p:=h
theorem c219 {p:Prop}(h:p:=by
 induction f with
 |zero=>
  exact c72
 |succ f ih=>
  intro L listed a w inv hpre hL hLL h
  by_cases hA:∀i,i<n→listed.getD i true=true
  ·exact c99
  ·obtain⟨i0,hi0,hu0,hm0⟩:=min_unlisted hA;have hsz:listed.size=l.length:=by rw[inv.size];simp
   have hr0:i0∈Region.ready md l.toArray listed:=by
    exact c145
   rw[show f+1+(l.length-n)=(f+(l.length-n))+1 by omega]
   refine⟨fun h0=>(by rw[h0]at hr0;cases hr0),fun i hi=>?_⟩
   have hin:i<n:=by
    rcases Nat.lt_or_ge i n with h1|h1
    ·exact h1
    ·exact absurd hi (waits_headC hB' inv hpre _ i0 rfl hi0 hu0 i h1)
   exact c38):p:=h
theorem c220 {p:Prop}(h:p:=by
 have f1:=hO.free;have hsl:Calls Tryz.prog 105 #[I ((1:Nat):Int)] wr.drew fun e w'=>e= .returned (I 16)∧w'=wr.drew:=slab_call 1 (by omega) wr.drew (show PTab wr.drew from hTb)
 simp only[szK]at hszb hbk;have hb2:0≤o.a1∧o.a1+256*((f:Int)+1)≤10000000:=by have:=hbk;simp only[V6.uK]at this;omega
 have zz97:=@c528;exact c527):p:=h
theorem c221 {p:Prop}(h:p:=by
 refine calls_gen (fun W=>PTab W∧Blk W (B+1+1) [I o.a0,I (o.a1+16),I o.a2,I o.a3,I o.a4,I o.a5]∧Keeps (fun b=>b<w1.heap.size∧b≠B+1+1) w1 W) ⟨?_,?_,?_⟩ (fun W HW=>?_)
 ·exact c22
 ·exact c56
 ·exact c16
 exact c421):p:=h
theorem c222 {p:Prop}(h:p:=by
 refine calls_gen (fun W=>PTab W∧Blk W (B+1+1) [I o.a0,I (o.a1+16),I o.a2,I o.a3,I o.a4,I o.a5]∧Keeps (fun b=>b<w5.heap.size∧b≠B+1+1) w5 W) ⟨?_,?_,?_⟩ (fun W HW=>?_)
 ·exact c22
 ·exact c56
 ·exact c16
 exact c421):p:=h
theorem c223 {p:Prop}(h:p:=by
 have f1:=hO.free;have hsl:Calls Tryz.prog 105 #[I ((2:Nat):Int)] wr.drew fun e w'=>e= .returned (I 64)∧w'=wr.drew:=slab_call 2 (by omega) wr.drew (show PTab wr.drew from hTb)
 simp only[szK]at hszb hbk;have hb2:0≤o.a2∧o.a2+256*((f:Int)+1)≤10000000:=by have:=hbk;simp only[V6.uK]at this;omega
 have zz98:=@c531;exact c530):p:=h
theorem c224 {p:Prop}(h:p:=by
 refine calls_gen (fun W=>PTab W∧Blk W (B+1+1) [I o.a0,I o.a1,I (o.a2+64),I o.a3,I o.a4,I o.a5]∧Keeps (fun b=>b<w1.heap.size∧b≠B+1+1) w1 W) ⟨?_,?_,?_⟩ (fun W HW=>?_)
 ·exact c22
 ·exact c56
 ·exact c16
 exact c422):p:=h
theorem c225 {p:Prop}(h:p:=by
 refine calls_gen (fun W=>PTab W∧Blk W (B+1+1) [I o.a0,I o.a1,I (o.a2+64),I o.a3,I o.a4,I o.a5]∧Keeps (fun b=>b<w5.heap.size∧b≠B+1+1) w5 W) ⟨?_,?_,?_⟩ (fun W HW=>?_)
 ·exact c22
 ·exact c56
 ·exact c16
 exact c422):p:=h
theorem c226 {p:Prop}(h:p:=by
 have f1:=hO.free;have hsl:Calls Tryz.prog 105 #[I ((0:Nat):Int)] wr.drew fun e w'=>e= .returned (I 4)∧w'=wr.drew:=slab_call 0 (by omega) wr.drew (show PTab wr.drew from hTb)
 simp only[szK]at hszb hbk;have hb2:0≤o.a0∧o.a0+256*((f:Int)+1)≤10000000:=by have:=hbk;simp only[V6.uK]at this;omega
 have zz99:=@c534;exact c533):p:=h
theorem c227 {p:Prop}(h:p:=by
 refine calls_gen (fun W=>PTab W∧Blk W (B+1+1) [I (o.a0+4),I o.a1,I o.a2,I o.a3,I o.a4,I o.a5]∧Keeps (fun b=>b<w1.heap.size∧b≠B+1+1) w1 W) ⟨?_,?_,?_⟩ (fun W HW=>?_)
 ·exact c22
 ·exact c56
 ·exact c16
 exact c423):p:=h
theorem c228 {p:Prop}(h:p:=by
 refine calls_gen (fun W=>PTab W∧Blk W (B+1+1) [I (o.a0+4),I o.a1,I o.a2,I o.a3,I o.a4,I o.a5]∧Keeps (fun b=>b<w5.heap.size∧b≠B+1+1) w5 W) ⟨?_,?_,?_⟩ (fun W HW=>?_)
 ·exact c22
 ·exact c56
 ·exact c16
 exact c423):p:=h
theorem c229 {p:Prop}(h:p:=by
 obtain⟨⟨tt,tp⟩,hx⟩:∃t,ws[j]? =some t:=⟨_,List.getElem?_eq_getElem hjl⟩;obtain⟨g,rfl,gc⟩:=own_rec tokC_len HN1.out hx;have hcell:=fun(o:Nat) (u:Value) (ho:o<3) (hu:(tokC (tt,tp))[o]? =some u)=>(World.cell?_of_block (a:=⟨g,j*3+o,none⟩) (HK4.out.block g (Or.inr rfl))).trans (gc o u ho hu);have a0:=hcell 0 _ (by decide) rfl
 have a1:=hcell 1 _ (by decide) rfl
 have a2:=hcell 2 _ (by decide) rfl
 simp only[Nat.add_zero]at a0;have hex:=HE2.out;rw[show ws.drop j=(tt,tp)::ws.drop (j+1) by
  obtain⟨h9,h8⟩:=List.getElem?_eq_some_iff.1 hx;rw[List.drop_eq_getElem_cons h9,h8],List.map_cons]at hex
 have hex2:(acc2++[tokF i (tt,tp)])++((ws.drop (j+1)).map (tokF i)++toksL (i+1) (fs.drop (i+1)))=toksL 0 fs:=by rw[←hex];simp
 clear gc hcell hx HE2 hex;have Hex2:=hid hex2;clear hex2;have hi5:(i:Int)≤4:=by omega
 go_upto_region 17 with fail
 exact zz26):p:=h
theorem c230 {p:Prop}(h:p:=by
 have hwu:IntKind.u8.wrap (i:Int)=(i:Int):=IntWalk.u8_in _ (by omega)
 have hOd:TokOwn wy.drew (fun b=>b<WB∨(Value.slice (some ⟨g,0,none⟩) ws.length c3).ownBlock=some b) (.slice A2 acc2.length c2) acc2:=⟨own_of_keep HO4.out.1 ((Keeps.refl (fun _=>True) wy).drew) fun _ _=>trivial,HO4.out.2⟩;have hgne:(Value.slice A2 acc2.length c2).ownBlock≠some g:=fun e=>HO4.out.2 g e (Or.inr rfl);have hgl:g<wy.heap.size:=Nat.lt_of_lt_of_le (Hlt2.out g (Or.inr rfl)) HK4.out.size
 have hone:∀u∈[Value.int .u8 (i:Int),.string tt,I (tp:Int)],u.oneCell'=true:=fun u hu=>by simp at hu;rcases hu with rfl|rfl|rfl<;>rfl
 have hnews:∀(j:Nat) (u:Value),[Value.int .u8 (i:Int),.string tt,I (tp:Int)][j]? =some u→(wy.drew.alloc (.cells #[.int .u8 (i:Int),.string tt,I (tp:Int)] 128)).cell? ((⟨wy.heap.size,0,none⟩:Addr).add j)=some u:=fun j u hu=>by
  rw[Addr.add_lit,Nat.zero_add];exact((Blk.new' wy.drew [.int .u8 (i:Int),.string tt,I (tp:Int)] _ rfl).cell j).trans hu
 obtain⟨i0,hi9,hz0,hz1,hz2⟩:=info_partsF Tryz.infoTok;have HCE:=hid (show∀W,(wy.drew.alloc (.cells #[.int .u8 (i:Int),.string tt,I (tp:Int)] 128)).grownBy W (Value.slice A2 acc2.length c2).ownBlock→(W.cell? ⟨g,j*3+1,none⟩=some (.string tt)∧W.cell? ⟨g,j*3+2,none⟩=some (I (tp:Int)))from fun W hg=>⟨(hg.cell_far ⟨g,j*3+1,none⟩ (by show g<_;rw[World.size_alloc];show g<wy.heap.size+1;omega) (Ne.symm hgne)).trans ((World.cell?_of_block (a:=⟨g,j*3+1,none⟩) (Below.heap_alloc wy.drew _ _ hgl)).trans a1),(hg.cell_far ⟨g,j*3+2,none⟩ (by show g<_;rw[World.size_alloc];show g<wy.heap.size+1;omega) (Ne.symm hgne)).trans ((World.cell?_of_block (a:=⟨g,j*3+2,none⟩) (Below.heap_alloc wy.drew _ _ hgl)).trans a2)⟩)
 have HOd:=hid hOd;have Hone:=hid hone;have Hnews:=hid hnews;clear hOd hone hnews
 go_region_held_law (fun w'=>w'.cell? ⟨g,j*3+1,none⟩=some (.string tt)∧w'.cell? ⟨g,j*3+2,none⟩=some (I (tp:Int))) (first|go_keep|exact HCE.out _ hgrow)
  ((refine step_append_lies _ (by rfl) _ _ 117 (by rfl) 0 128 i0 (.agg #[.int .u8 0,.string ⟨#[]⟩,I 0]) 3 32 Tryz.underlying117 hi9 hz0 hz1 hz2 rfl (by decide) (.slice A2 acc2.length c2) acc2.length (acc2.flatMap tokI) (by rfl) (HOd.out.1.alloc _) ⟨wy.heap.size,0,none⟩ 1 1 [.int .u8 (i:Int),.string tt,I (tp:Int)] (by rfl) rfl Hnews.out Hone.out (by decide) (by unfold maxLen;omega) (by omega) (Nat.zero_le _) (wy.heap.size+1) (by simp) ?_;intro g9 cap9 w6 hown' hgrow hat hlt9))
 have hwl9:∀b,(b<WB∨(Value.slice (some ⟨g,0,none⟩) ws.length c3).ownBlock=some b)→b<wy.heap.size:=fun b hb=>Nat.lt_of_lt_of_le (Hlt2.out b hb) HK4.out.size;have hK6:=((HK4.out.drew).alloc hwl9 (.cells #[.int .u8 (i:Int),.string tt,I (tp:Int)] 128)).trans (keeps_append (fun b hb=>by have:=hwl9 b hb;rw[World.size_alloc];show b<wy.heap.size+1;omega) HO4.out.2 hgrow)
 have hO6:TokOwn w6 (fun b=>b<WB∨(Value.slice (some ⟨g,0,none⟩) ws.length c3).ownBlock=some b) (.slice (some ⟨g9,0,none⟩) (acc2.length+1) cap9) (acc2++[tokF i (tt,tp)]):=by
  refine⟨by simpa[List.flatMap_append,tokI,tokF]using hown',fun b hb hKb=>?_⟩
  have hb:some g9=some b:=hb;injection hb with hb
  subst hb
  rcases hat with h|h
  ·exact HO4.out.2 g9 h hKb
  ·have:=hwl9 g9 hKb;omega
 have hll:(acc2++[tokF i (tt,tp)]).length=acc2.length+1:=by simp
 rw[←hll]at hO6;clear hown' hgrow hat hlt9 hi9 hz0 hz1 hz2 hwl9 HO4 HK4 HCE HOd Hone Hnews hgne hgl hwu;generalize acc2++[tokF i (tt,tp)]=acc3 at*;have HK6:=hid hK6;have HO6:=hid hO6;clear hK6 hO6
 go_wp2_with fail
 go_roundw
 case rel=>exact⟨j+1,acc3,some ⟨g9,0,none⟩,cap9,by rw[hll],by go_num,by omega,by omega,Hex2,HO6,HK6⟩
 case measure=>exact msA):p:=h
theorem c231 {p:Prop}(h:p:=by
 have hwl:∀b,(b<w.heap.size∨(Value.slice (some ⟨g,0,none⟩) ws.length c3).ownBlock=some b)→b<wy.heap.size:=fun b hb=>Nat.lt_of_lt_of_le (Hlt2.out b hb) HK4.out.size;have hal5:Keeps (· <wy.heap.size) wy (wy.alloc (.cells #[.int .u8 (i:Int),.string tt,I (tp:Int)] 128)):=(Keeps.refl _ _).alloc (fun b hb=>hb) _;have hO5:TokOwn (wy.alloc (.cells #[.int .u8 (i:Int),.string tt,I (tp:Int)] 128)) (fun b=>b<w.heap.size∨(Value.slice (some ⟨g,0,none⟩) ws.length c3).ownBlock=some b) (.slice A2 acc2.length c2) acc2:=
  ⟨own_of_keep HO4.out.1 hal5 fun b hb=>(HO4.out.1.lt b hb).2,HO4.out.2⟩
 have hK5:=HK4.out.trans (hal5.mono hwl);have hB5:=Blk.new wy [.int .u8 (i:Int),.string tt,I (tp:Int)] 128;generalize wy.alloc (.cells #[.int .u8 (i:Int),.string tt,I (tp:Int)] 128)=W1 at*;obtain⟨y0,y1,y2⟩:=hB5.c3;clear hB5 hal5 HO4 HK4 a0 a1 a2 hwl;have HO5:=hid hO5;have HK5:=hid hK5;clear hO5 hK5;obtain⟨i0,hi9,hz0,hz1,hz2⟩:=info_partsF Tryz.infoTok
 go_wp2_with (at_builtin;go_must (refine wpList_append_x rfl _ _ 117 rfl 128 i0 (.agg #[.int .u8 0,.string ⟨#[]⟩,I 0]) 3 32 Tryz.underlying117 hi9 hz0 hz1 hz2 rfl (by decide) (.slice A2 acc2.length c2) acc2.length (acc2.flatMap tokI) rfl (HO5.out.1.alloc _) ⟨W1.heap.size,0,none⟩ 1 1 [.int .u8 (i:Int),.string tt,I (tp:Int)] rfl rfl ?_ ?_ ?_ ?_ ?_))
 ·intro jj u hj;rw[Addr.add_lit,Nat.zero_add];exact((Blk.new' _ [.int .u8 (i:Int),.string tt,I (tp:Int)] _ (by simp)).cell jj).trans hj
 ·intro u hu;simp at hu;rcases hu with rfl|rfl|rfl<;>rfl
 ·unfold maxLen;omega
 ·omega
 ·intro v' w6 hown' hgr hfr;obtain⟨A9,cp9,rfl⟩:=ownB_form hown';have hwl:∀b,(b<w.heap.size∨(Value.slice (some ⟨g,0,none⟩) ws.length c3).ownBlock=some b)→b<W1.heap.size:=fun b hb=>Nat.lt_of_lt_of_le (Hlt2.out b hb) HK5.out.size;have hK6:=(HK5.out.alloc hwl (.cells #[.int .u8 (i:Int),.string tt,I (tp:Int)] 128)).trans (keeps_append (fun b hb=>by have:=hwl b hb;simp;omega) HO5.out.2 hgr)
  have hO6:TokOwn w6 (fun b=>b<w.heap.size∨(Value.slice (some ⟨g,0,none⟩) ws.length c3).ownBlock=some b) (.slice A9 (acc2.length+1) cp9) (acc2++[tokF i (tt,tp)]):=by
   refine⟨?_,?_⟩
   ·simpa[List.flatMap_append,tokI,tokF]using hown'
   ·intro b hb hKb
    rcases hfr with h|⟨b',h,h2⟩
    ·exact HO5.out.2 b (h▸hb) hKb
    ·rw[h]at hb;injection hb with hb
     have h3:=hwl b hKb;have h4:=World.size_alloc W1 (.cells #[.int .u8 (i:Int),.string tt,I (tp:Int)] 128)
     omega
  have hll:(acc2++[tokF i (tt,tp)]).length=acc2.length+1:=by simp
  rw[←hll]at hO6;generalize acc2++[tokF i (tt,tp)]=acc3 at*;have HK6:=hid hK6;have HO6:=hid hO6;clear hK6 hO6;clear hown' hgr hfr hi9 hz0 hz1 hz2 y0 y1 y2 hwl HO5 HK5
  go_wp2_with fail
  go_roundw
  case rel=>exact⟨j+1,acc3,A9,cp9,by rw[hll],by go_num,by omega,by omega,Hex2,HO6,HK6⟩
  case measure=>exact msA):p:=h
theorem c232 {p:Prop}(h:p:=by
 have zz116:=@c585;exact c584):p:=h
theorem c233 {p:Prop}(h:p:=by
 refine bodyPost_ret (v:= .agg #[I o.a0,I o.a1,I o.a2,I o.a3,I o.a4,I o.a5]) ?_ rfl ?_
 ·simp[results,Tryz.results78,go_sem,d0,d1,d2,d3,d4,d5]
 ·refine hR'.out _ _ ⟨?_,g2⟩;rw[←Hfin.out];rfl):p:=h
theorem c234 {p:Prop}(h:p:=by
 refine bodyPost_ret (v:= .agg #[I o.a0,I o.a1,I o.a2,I o.a3,I o.a4,I o.a5]) ?_ rfl ?_
 ·simp[results,Tryz.results63,go_sem,d0,d1,d2,d3,d4,d5]
 ·refine hR'.out _ _ ⟨?_,g2⟩;rw[←Hfin.out];rfl):p:=h
theorem c235 {p:Prop}(h:p:=by
 have f1:=hO.free;have hsl:Calls Tryz.prog 67 #[I ((3:Nat):Int)] wr.drew fun e w'=>e= .returned (I 256)∧w'=wr.drew:=slab_at3 wr.drew;simp only[szK]at hszb hbk;have hb2:0≤o.a3∧o.a3+256*((m:Int)+1)≤10000000:=by have:=hbk;simp only[V6.uK]at this;omega
 have zz96:=@c526;exact c524):p:=h
theorem c236 {p:Prop}(h:p:=by
 refine calls_gen (fun W=>Blk W (B+1+1) [I o.a0,I o.a1,I o.a2,I (o.a3+256),I o.a4,I o.a5]∧Keeps (fun b=>b<w1.heap.size∧b≠B+1+1) w1 W) ⟨?_,?_⟩ (fun W HW=>?_)
 ·exact c56
 ·exact c16
 exact c435):p:=h
theorem c237 {p:Prop}(h:p:=by
 refine calls_gen (fun W=>Blk W (B+1+1) [I o.a0,I o.a1,I o.a2,I (o.a3+256),I o.a4,I o.a5]∧Keeps (fun b=>b<w5.heap.size∧b≠B+1+1) w5 W) ⟨?_,?_⟩ (fun W HW=>?_)
 ·exact c56
 ·exact c16
 exact c435):p:=h
theorem c238 {p:Prop}(h:p:=by
 have f1:=hO.free;have hsl:Calls Tryz.prog 67 #[I ((1:Nat):Int)] wr.drew fun e w'=>e= .returned (I 16)∧w'=wr.drew:=slab_at1 wr.drew;simp only[szK]at hszb hbk;have hb2:0≤o.a1∧o.a1+256*((m:Int)+1)≤10000000:=by have:=hbk;simp only[V6.uK]at this;omega
 have zz97:=@c529;exact c527):p:=h
theorem c239 {p:Prop}(h:p:=by
 refine calls_gen (fun W=>Blk W (B+1+1) [I o.a0,I (o.a1+16),I o.a2,I o.a3,I o.a4,I o.a5]∧Keeps (fun b=>b<w1.heap.size∧b≠B+1+1) w1 W) ⟨?_,?_⟩ (fun W HW=>?_)
 ·exact c56
 ·exact c16
 exact c436):p:=h
theorem c240 {p:Prop}(h:p:=by
 refine calls_gen (fun W=>Blk W (B+1+1) [I o.a0,I (o.a1+16),I o.a2,I o.a3,I o.a4,I o.a5]∧Keeps (fun b=>b<w5.heap.size∧b≠B+1+1) w5 W) ⟨?_,?_⟩ (fun W HW=>?_)
 ·exact c56
 ·exact c16
 exact c436):p:=h
theorem c241 {p:Prop}(h:p:=by
 have f1:=hO.free;have hsl:Calls Tryz.prog 67 #[I ((2:Nat):Int)] wr.drew fun e w'=>e= .returned (I 64)∧w'=wr.drew:=slab_at2 wr.drew;simp only[szK]at hszb hbk;have hb2:0≤o.a2∧o.a2+256*((m:Int)+1)≤10000000:=by have:=hbk;simp only[V6.uK]at this;omega
 have zz98:=@c532;exact c530):p:=h
theorem c242 {p:Prop}(h:p:=by
 refine calls_gen (fun W=>Blk W (B+1+1) [I o.a0,I o.a1,I (o.a2+64),I o.a3,I o.a4,I o.a5]∧Keeps (fun b=>b<w1.heap.size∧b≠B+1+1) w1 W) ⟨?_,?_⟩ (fun W HW=>?_)
 ·exact c56
 ·exact c16
 exact c437):p:=h
theorem c243 {p:Prop}(h:p:=by
 refine calls_gen (fun W=>Blk W (B+1+1) [I o.a0,I o.a1,I (o.a2+64),I o.a3,I o.a4,I o.a5]∧Keeps (fun b=>b<w5.heap.size∧b≠B+1+1) w5 W) ⟨?_,?_⟩ (fun W HW=>?_)
 ·exact c56
 ·exact c16
 exact c437):p:=h
theorem c244 {p:Prop}(h:p:=by
 have f1:=hO.free;have hsl:Calls Tryz.prog 67 #[I ((0:Nat):Int)] wr.drew fun e w'=>e= .returned (I 4)∧w'=wr.drew:=slab_at0 wr.drew;simp only[szK]at hszb hbk;have hb2:0≤o.a0∧o.a0+256*((m:Int)+1)≤10000000:=by have:=hbk;simp only[V6.uK]at this;omega
 have zz99:=@c535;exact c533):p:=h
theorem c245 {p:Prop}(h:p:=by
 refine calls_gen (fun W=>Blk W (B+1+1) [I (o.a0+4),I o.a1,I o.a2,I o.a3,I o.a4,I o.a5]∧Keeps (fun b=>b<w1.heap.size∧b≠B+1+1) w1 W) ⟨?_,?_⟩ (fun W HW=>?_)
 ·exact c56
 ·exact c16
 exact c438):p:=h
theorem c246 {p:Prop}(h:p:=by
 refine calls_gen (fun W=>Blk W (B+1+1) [I (o.a0+4),I o.a1,I o.a2,I o.a3,I o.a4,I o.a5]∧Keeps (fun b=>b<w5.heap.size∧b≠B+1+1) w5 W) ⟨?_,?_⟩ (fun W HW=>?_)
 ·exact c56
 ·exact c16
 exact c438):p:=h
theorem c247 {p:Prop}(h:p:=by
 have zz116:=@c586;exact c584):p:=h
theorem c248 {p:Prop}(h:p:=by
 exact c233):p:=h
theorem c249 {p:Prop}(h:p:=by
 exact c234):p:=h
theorem c250 {p:Prop}(h:p:=by
 have H19:Hid (¬(1632≤r∧r≤1641)):=hid (fun g=>absurd (hb.2 g) (by decide))
 clear hb;have hm:foldM r=r:=by have q0:=H0.out ;have q1:=H1.out ;have q2:=H2.out ;have q3:=H3.out ;have q4:=H4.out ;have q5:=H5.out ;have q6:=H6.out ;have q7:=H7.out ;have q8:=H8.out ;have q9:=H9.out ;have q10:=H10.out ;have q11:=H11.out ;have q12:=H12.out ;have q13:=H13.out ;have q14:=H14.out ;have q15:=H15.out ;have q16:=H16.out ;have q17:=H17.out ;have q18:=H18.out ;have q19:=H19.out ;rw[foldM_ifs] ;omega
 clear H0 H1 H2 H3 H4 H5 H6 H7 H8 H9 H10 H11 H12 H13 H14 H15 H16 H17 H18 H19;exact zz33):p:=h
theorem c251 {p:Prop}(h:p:=by
 exact c12):p:=h
theorem c252 {p:Prop}(h:p:=by
 exact c12):p:=h
theorem c253 {p:Prop}(h:p:=by
 change _=some (I (p.size.g6 0))at c0;have c1:=hb1.cell 0;change _=some (I (u.g6 0))at c1;have c2:=hb2.cell 0;change _=some (I (m.g6 0))at c2;obtain⟨x0,x1,x2,x3⟩:=HU.out 0 (by omega)
 have HNX:=hid (show m.g6 0≤p.size.g6 0-u.g6 0→∀j,j<1→m.g6 j≤p.size.g6 j-u.g6 j from fun h j hj=>by
  by_cases e:j<0
  ·exact Hno.out j e
  ·obtain rfl:j=0:=by omega
   exact h)
 have HNO:=hid (show¬m.g6 0≤p.size.g6 0-u.g6 0→fitsP p u m=false from fun h=>fitsP_no HU.out (by omega) h)
 exact zz34):p:=h
theorem c254 {p:Prop}(h:p:=by
 have hix:(Instr.index 40 (.agg #[I p.size.a0,I p.size.a1,I p.size.a2,I p.size.a3,I p.size.a4,I p.size.a5]) (I 0)).run Tryz.prog wr= .ok (I (p.size.g6 0)) wr:=by kernel_rfl
 exact c413):p:=h
theorem c255 {p:Prop}(h:p:=by
 skip
 exact c413):p:=h
theorem c256 {p:Prop}(h:p:=by
 change _=some (I (p.size.g6 1))at c0;have c1:=hb1.cell 1;change _=some (I (u.g6 1))at c1;have c2:=hb2.cell 1;change _=some (I (m.g6 1))at c2;obtain⟨x0,x1,x2,x3⟩:=HU.out 1 (by omega)
 have HNX:=hid (show m.g6 1≤p.size.g6 1-u.g6 1→∀j,j<2→m.g6 j≤p.size.g6 j-u.g6 j from fun h j hj=>by
  by_cases e:j<1
  ·exact Hno.out j e
  ·obtain rfl:j=1:=by omega
   exact h)
 have HNO:=hid (show¬m.g6 1≤p.size.g6 1-u.g6 1→fitsP p u m=false from fun h=>fitsP_no HU.out (by omega) h)
 exact zz35):p:=h
theorem c257 {p:Prop}(h:p:=by
 have hix:(Instr.index 40 (.agg #[I p.size.a0,I p.size.a1,I p.size.a2,I p.size.a3,I p.size.a4,I p.size.a5]) (I 1)).run Tryz.prog wr= .ok (I (p.size.g6 1)) wr:=by kernel_rfl
 exact c414):p:=h
theorem c258 {p:Prop}(h:p:=by
 skip
 exact c414):p:=h
theorem c259 {p:Prop}(h:p:=by
 change _=some (I (p.size.g6 2))at c0;have c1:=hb1.cell 2;change _=some (I (u.g6 2))at c1;have c2:=hb2.cell 2;change _=some (I (m.g6 2))at c2;obtain⟨x0,x1,x2,x3⟩:=HU.out 2 (by omega)
 have HNX:=hid (show m.g6 2≤p.size.g6 2-u.g6 2→∀j,j<3→m.g6 j≤p.size.g6 j-u.g6 j from fun h j hj=>by
  by_cases e:j<2
  ·exact Hno.out j e
  ·obtain rfl:j=2:=by omega
   exact h)
 have HNO:=hid (show¬m.g6 2≤p.size.g6 2-u.g6 2→fitsP p u m=false from fun h=>fitsP_no HU.out (by omega) h)
 exact zz36):p:=h
theorem c260 {p:Prop}(h:p:=by
 have hix:(Instr.index 40 (.agg #[I p.size.a0,I p.size.a1,I p.size.a2,I p.size.a3,I p.size.a4,I p.size.a5]) (I 2)).run Tryz.prog wr= .ok (I (p.size.g6 2)) wr:=by kernel_rfl
 exact c415):p:=h
theorem c261 {p:Prop}(h:p:=by
 skip
 exact c415):p:=h
theorem c262 {p:Prop}(h:p:=by
 change _=some (I (p.size.g6 3))at c0;have c1:=hb1.cell 3;change _=some (I (u.g6 3))at c1;have c2:=hb2.cell 3;change _=some (I (m.g6 3))at c2;obtain⟨x0,x1,x2,x3⟩:=HU.out 3 (by omega)
 have HNX:=hid (show m.g6 3≤p.size.g6 3-u.g6 3→∀j,j<4→m.g6 j≤p.size.g6 j-u.g6 j from fun h j hj=>by
  by_cases e:j<3
  ·exact Hno.out j e
  ·obtain rfl:j=3:=by omega
   exact h)
 have HNO:=hid (show¬m.g6 3≤p.size.g6 3-u.g6 3→fitsP p u m=false from fun h=>fitsP_no HU.out (by omega) h)
 exact zz37):p:=h
theorem c263 {p:Prop}(h:p:=by
 have hix:(Instr.index 40 (.agg #[I p.size.a0,I p.size.a1,I p.size.a2,I p.size.a3,I p.size.a4,I p.size.a5]) (I 3)).run Tryz.prog wr= .ok (I (p.size.g6 3)) wr:=by kernel_rfl
 exact c416):p:=h
theorem c264 {p:Prop}(h:p:=by
 skip
 exact c416):p:=h
theorem c265 {p:Prop}(h:p:=by
 change _=some (I (p.size.g6 4))at c0;have c1:=hb1.cell 4;change _=some (I (u.g6 4))at c1;have c2:=hb2.cell 4;change _=some (I (m.g6 4))at c2;obtain⟨x0,x1,x2,x3⟩:=HU.out 4 (by omega)
 have HNX:=hid (show m.g6 4≤p.size.g6 4-u.g6 4→∀j,j<5→m.g6 j≤p.size.g6 j-u.g6 j from fun h j hj=>by
  by_cases e:j<4
  ·exact Hno.out j e
  ·obtain rfl:j=4:=by omega
   exact h)
 have HNO:=hid (show¬m.g6 4≤p.size.g6 4-u.g6 4→fitsP p u m=false from fun h=>fitsP_no HU.out (by omega) h)
 exact zz38):p:=h
theorem c266 {p:Prop}(h:p:=by
 have hix:(Instr.index 40 (.agg #[I p.size.a0,I p.size.a1,I p.size.a2,I p.size.a3,I p.size.a4,I p.size.a5]) (I 4)).run Tryz.prog wr= .ok (I (p.size.g6 4)) wr:=by kernel_rfl
 exact c417):p:=h
theorem c267 {p:Prop}(h:p:=by
 skip
 exact c417):p:=h
theorem c268 {p:Prop}(h:p:=by
 change _=some (I (p.size.g6 5))at c0;have c1:=hb1.cell 5;change _=some (I (u.g6 5))at c1;have c2:=hb2.cell 5;change _=some (I (m.g6 5))at c2;obtain⟨x0,x1,x2,x3⟩:=HU.out 5 (by omega)
 have HNX:=hid (show m.g6 5≤p.size.g6 5-u.g6 5→∀j,j<6→m.g6 j≤p.size.g6 j-u.g6 j from fun h j hj=>by
  by_cases e:j<5
  ·exact Hno.out j e
  ·obtain rfl:j=5:=by omega
   exact h)
 have HNO:=hid (show¬m.g6 5≤p.size.g6 5-u.g6 5→fitsP p u m=false from fun h=>fitsP_no HU.out (by omega) h)
 exact zz39):p:=h
theorem c269 {p:Prop}(h:p:=by
 have hix:(Instr.index 40 (.agg #[I p.size.a0,I p.size.a1,I p.size.a2,I p.size.a3,I p.size.a4,I p.size.a5]) (I 5)).run Tryz.prog wr= .ok (I (p.size.g6 5)) wr:=by kernel_rfl
 exact c418):p:=h
theorem c270 {p:Prop}(h:p:=by
 skip
 exact c418):p:=h
theorem c271 {p:Prop}(h:p:=by
 refine calls_hide fun R' hR'=>?_;unfold ConfM.list
 go_enter Tryz.func40,Tryz.ntmps40
 go_wp2_with fail
 have zz115:=@c583;exact c581):p:=h
theorem c272 {p:Prop}(h:p:=by
 go_loopw[5,6] (fun all kv wr=>∃k:Nat,k≤6∧kv=I k∧all=I (baseC ⟨docs,terms,s0,s1,s2,s3,book,room,kk,bb⟩ k)∧Blk wr b [I docs,I terms,I s0,I s1,I s2,I s3,I book,I room,kk,bb]∧
  Blk wr (b+1) [I 0,I 0,I 0,I 0,I 0,I 0]∧Blk wr (b+1+1) (six (upto k (szC ⟨docs,terms,s0,s1,s2,s3,book,room,kk,bb⟩)))∧Keeps (· <b) w wr) (fun _ kv _=>6-(intOf kv).toNat)
 case atStart=>exact⟨0,by omega,rfl,rfl,hB0,hB1,hB2,hk⟩
 case round=>
  have zz164:=@c778;exact c777):p:=h
theorem c273 {p:Prop}(h:p:=by
 go_loopw[5,6] (fun all kv wr=>∃k:Nat,k≤0∧kv=I k∧all=I (baseC ⟨docs,terms,s0,s1,s2,s3,book,room,kk,bb⟩ k)∧Blk wr b [I docs,I terms,I s0,I s1,I s2,I s3,I book,I room,kk,bb]∧
  Blk wr (b+1) [I 0,I 0,I 0,I 0,I 0,I 0]∧Blk wr (b+1+1) (six (upto k (szC ⟨docs,terms,s0,s1,s2,s3,book,room,kk,bb⟩)))∧Keeps (· <b) w wr) (fun _ kv _=>6-(intOf kv).toNat)
 case atStart=>exact⟨0,by omega,rfl,rfl,hB0,hB1,hB2,hk⟩
 case round=>
  have zz164:=@c779;exact c777):p:=h
theorem c274 {p:Prop}(h:p:=by
 go_loopw[5,6] (fun all kv wr=>∃k:Nat,k≤1∧kv=I k∧all=I (baseC ⟨docs,terms,s0,s1,s2,s3,book,room,kk,bb⟩ k)∧Blk wr b [I docs,I terms,I s0,I s1,I s2,I s3,I book,I room,kk,bb]∧
  Blk wr (b+1) [I 0,I 0,I 0,I 0,I 0,I 0]∧Blk wr (b+1+1) (six (upto k (szC ⟨docs,terms,s0,s1,s2,s3,book,room,kk,bb⟩)))∧Keeps (· <b) w wr) (fun _ kv _=>6-(intOf kv).toNat)
 case atStart=>exact⟨0,by omega,rfl,rfl,hB0,hB1,hB2,hk⟩
 case round=>
  have zz164:=@c780;exact c777):p:=h
theorem c275 {p:Prop}(h:p:=by
 go_loopw[5,6] (fun all kv wr=>∃k:Nat,k≤2∧kv=I k∧all=I (baseC ⟨docs,terms,s0,s1,s2,s3,book,room,kk,bb⟩ k)∧Blk wr b [I docs,I terms,I s0,I s1,I s2,I s3,I book,I room,kk,bb]∧
  Blk wr (b+1) [I 0,I 0,I 0,I 0,I 0,I 0]∧Blk wr (b+1+1) (six (upto k (szC ⟨docs,terms,s0,s1,s2,s3,book,room,kk,bb⟩)))∧Keeps (· <b) w wr) (fun _ kv _=>6-(intOf kv).toNat)
 case atStart=>exact⟨0,by omega,rfl,rfl,hB0,hB1,hB2,hk⟩
 case round=>
  have zz164:=@c781;exact c777):p:=h
theorem c276 {p:Prop}(h:p:=by
 go_loopw[5,6] (fun all kv wr=>∃k:Nat,k≤3∧kv=I k∧all=I (baseC ⟨docs,terms,s0,s1,s2,s3,book,room,kk,bb⟩ k)∧Blk wr b [I docs,I terms,I s0,I s1,I s2,I s3,I book,I room,kk,bb]∧
  Blk wr (b+1) [I 0,I 0,I 0,I 0,I 0,I 0]∧Blk wr (b+1+1) (six (upto k (szC ⟨docs,terms,s0,s1,s2,s3,book,room,kk,bb⟩)))∧Keeps (· <b) w wr) (fun _ kv _=>6-(intOf kv).toNat)
 case atStart=>exact⟨0,by omega,rfl,rfl,hB0,hB1,hB2,hk⟩
 case round=>
  have zz164:=@c782;exact c777):p:=h
theorem c277 {p:Prop}(h:p:=by
 have kc0:=(HX.out).cell 0;have kc1:=(HX.out).cell 1;have kc2:=(HX.out).cell 2;have kc3:=(HX.out).cell 3;have kc4:=(HX.out).cell 4;have kc5:=(HX.out).cell 5;have kc6:=(HX.out).cell 6;have kc7:=(HX.out).cell 7;have kc8:=(HX.out).cell 8;have kc9:=(HX.out).cell 9;have y0:=(HWS.out).cell 0;have y1:=(HWS.out).cell 1;have y2:=(HWS.out).cell 2;have y3:=(HWS.out).cell 3;have y4:=(HWS.out).cell 4
 have y5:=(HWS.out).cell 5;have y6:=(HWS.out).cell 6;have y7:=(HWS.out).cell 7;have y8:=(HWS.out).cell 8;exact zz41):p:=h
theorem c278 {p:Prop}(h:p:=by
 simp only[List.getElem?_cons_zero,List.getElem?_cons_succ]at c1 c2 c3 b1 kc0 kc1 kc2 kc3 kc4 kc5 kc6 kc7 kc8 kc9 y0 y1 y2 y3 y4 y5 y6 y7 y8;have HSS:=hid (show∀w':World,Keeps G w w'→(w'.cell? ⟨PW,0,none⟩=some (.pointer (some ⟨WB,0,none⟩))∧w'.cell? ⟨PE,0,none⟩=some (.pointer (some ⟨EB,0,none⟩))∧w'.cell? ⟨XB,0,none⟩=some (.pointer (some ⟨X,0,none⟩))∧w'.cell? ⟨OB,1,none⟩=some (J id)∧w'.cell? ⟨X,0,none⟩=some (I docs)∧w'.cell? ⟨X,1,none⟩=some (I terms)∧w'.cell? ⟨X,2,none⟩=some (I q0)∧w'.cell? ⟨X,3,none⟩=some (I q1)∧w'.cell? ⟨X,4,none⟩=some (I q2)∧w'.cell? ⟨X,5,none⟩=some (I q3)∧w'.cell? ⟨X,6,none⟩=some (I book)∧w'.cell? ⟨X,7,none⟩=some (I room)∧w'.cell? ⟨X,8,none⟩=some (kk)∧w'.cell? ⟨X,9,none⟩=some (bb)∧w'.cell? ⟨WS,0,none⟩=some (.slice SA segs.length sc)∧w'.cell? ⟨WS,1,none⟩=some (I wt)∧w'.cell? ⟨WS,2,none⟩=some (J wv)∧w'.cell? ⟨WS,3,none⟩=some (I u0)∧w'.cell? ⟨WS,4,none⟩=some (I u1)∧w'.cell? ⟨WS,5,none⟩=some (I u2)∧w'.cell? ⟨WS,6,none⟩=some (I u3)∧w'.cell? ⟨WS,7,none⟩=some (I u4)∧w'.cell? ⟨WS,8,none⟩=some (I u5))∧(w'.cell? ⟨WB,0,none⟩=some (l0)∧w'.cell? ⟨WB,1,none⟩=some (l1)∧w'.cell? ⟨WB,2,none⟩=some (l2)∧w'.cell? ⟨WB,3,none⟩=some (l3)∧w'.cell? ⟨WB,4,none⟩=some (l4)∧w'.cell? ⟨WB,5,none⟩=some (l5)∧w'.cell? ⟨WB,6,none⟩=some (l6)∧w'.cell? ⟨WB,7,none⟩=some (l7)∧w'.cell? ⟨WB,8,none⟩=some (l8)∧w'.cell? ⟨EB,0,none⟩=some (I e0)∧w'.frozen? ⟨WB,0,none⟩=false∧w'.frozen? ⟨WB,1,none⟩=false∧w'.frozen? ⟨WB,2,none⟩=false∧w'.frozen? ⟨WB,3,none⟩=false∧w'.frozen? ⟨WB,4,none⟩=false∧w'.frozen? ⟨WB,5,none⟩=false∧w'.frozen? ⟨WB,6,none⟩=false∧w'.frozen? ⟨WB,7,none⟩=false∧w'.frozen? ⟨WB,8,none⟩=false∧w'.frozen? ⟨EB,0,none⟩=false)from by
  intro w' k;have ePW:=fun i=>World.cell?_of_block (a:=⟨PW,i,none⟩) (k.block PW (HG.out PW (by simp)))
  have ePE:=fun i=>World.cell?_of_block (a:=⟨PE,i,none⟩) (k.block PE (HG.out PE (by simp)))
  have eXB:=fun i=>World.cell?_of_block (a:=⟨XB,i,none⟩) (k.block XB (HG.out XB (by simp)))
  have eOB:=fun i=>World.cell?_of_block (a:=⟨OB,i,none⟩) (k.block OB (HG.out OB (by simp)))
  have eX:=fun i=>World.cell?_of_block (a:=⟨X,i,none⟩) (k.block X (HG.out X (by simp)))
  have eWS:=fun i=>World.cell?_of_block (a:=⟨WS,i,none⟩) (k.block WS (HG.out WS (by simp)))
  have hw9:=HWB.out.keep k (HG.out WB (by simp))
  have he9:=HEB.out.keep k (HG.out EB (by simp))
  have hf:=hw9.free;have hfe:=he9.free 0;obtain⟨z0,z1,z2,z3,z4,z5,z6,z7,z8⟩:=hw9.c9;have z9:=he9.cell 0;simp only[List.getElem?_cons_zero]at z9;exact⟨⟨(ePW 0).trans c1,(ePE 0).trans c2,(eXB 0).trans c3,(eOB 1).trans b1,(eX 0).trans kc0,(eX 1).trans kc1,(eX 2).trans kc2,(eX 3).trans kc3,(eX 4).trans kc4,(eX 5).trans kc5,(eX 6).trans kc6,(eX 7).trans kc7,(eX 8).trans kc8,(eX 9).trans kc9,(eWS 0).trans y0,(eWS 1).trans y1,(eWS 2).trans y2,(eWS 3).trans y3,(eWS 4).trans y4,(eWS 5).trans y5,(eWS 6).trans y6,(eWS 7).trans y7,(eWS 8).trans y8⟩,z0,z1,z2,z3,z4,z5,z6,z7,z8,z9,hf 0,hf 1,hf 2,hf 3,hf 4,hf 5,hf 6,hf 7,hf 8,hfe⟩)
 have HTB:=hid (show∀wa,Keeps (fun _=>True) w wa→Calls Tryz.prog 35 #[.pointer (some ⟨r,0,none⟩),.agg #[I docs,I terms,I q0,I q1,I q2,I q3,I book,I room,kk,bb],.agg #[.slice SA segs.length sc,I wt,J wv,I u0,I u1,I u2,I u3,I u4,I u5],J id] wa fun e w'=>∃(SA2:Option Addr) (s2:Nat),e= .returned (.tuple #[.agg #[.slice SA2 segs.length s2,I t',J v',I x0,I x1,I x2,I x3,I x4,I x5],I er])∧Hid (SlAt w' (fun b=>Ks b∨(w.heap.size≤b∧b<w'.heap.size∧b≠r∧b≠m∧b≠c)) 3 (.slice SA2 segs.length s2) segs.length (segs.flatMap SegM.cells)∧RM w' G r m c sz∧Keeps G w w')∧(w'.cell? ⟨PW,0,none⟩=some (.pointer (some ⟨WB,0,none⟩))∧w'.cell? ⟨PE,0,none⟩=some (.pointer (some ⟨EB,0,none⟩))∧w'.cell? ⟨XB,0,none⟩=some (.pointer (some ⟨X,0,none⟩))∧w'.cell? ⟨OB,1,none⟩=some (J id)∧w'.cell? ⟨X,0,none⟩=some (I docs)∧w'.cell? ⟨X,1,none⟩=some (I terms)∧w'.cell? ⟨X,2,none⟩=some (I q0)∧w'.cell? ⟨X,3,none⟩=some (I q1)∧w'.cell? ⟨X,4,none⟩=some (I q2)∧w'.cell? ⟨X,5,none⟩=some (I q3)∧w'.cell? ⟨X,6,none⟩=some (I book)∧w'.cell? ⟨X,7,none⟩=some (I room)∧w'.cell? ⟨X,8,none⟩=some (kk)∧w'.cell? ⟨X,9,none⟩=some (bb)∧w'.cell? ⟨WS,0,none⟩=some (.slice SA segs.length sc)∧w'.cell? ⟨WS,1,none⟩=some (I wt)∧w'.cell? ⟨WS,2,none⟩=some (J wv)∧w'.cell? ⟨WS,3,none⟩=some (I u0)∧w'.cell? ⟨WS,4,none⟩=some (I u1)∧w'.cell? ⟨WS,5,none⟩=some (I u2)∧w'.cell? ⟨WS,6,none⟩=some (I u3)∧w'.cell? ⟨WS,7,none⟩=some (I u4)∧w'.cell? ⟨WS,8,none⟩=some (I u5))∧(w'.cell? ⟨WB,0,none⟩=some (l0)∧w'.cell? ⟨WB,1,none⟩=some (l1)∧w'.cell? ⟨WB,2,none⟩=some (l2)∧w'.cell? ⟨WB,3,none⟩=some (l3)∧w'.cell? ⟨WB,4,none⟩=some (l4)∧w'.cell? ⟨WB,5,none⟩=some (l5)∧w'.cell? ⟨WB,6,none⟩=some (l6)∧w'.cell? ⟨WB,7,none⟩=some (l7)∧w'.cell? ⟨WB,8,none⟩=some (l8)∧w'.cell? ⟨EB,0,none⟩=some (I e0)∧w'.frozen? ⟨WB,0,none⟩=false∧w'.frozen? ⟨WB,1,none⟩=false∧w'.frozen? ⟨WB,2,none⟩=false∧w'.frozen? ⟨WB,3,none⟩=false∧w'.frozen? ⟨WB,4,none⟩=false∧w'.frozen? ⟨WB,5,none⟩=false∧w'.frozen? ⟨WB,6,none⟩=false∧w'.frozen? ⟨WB,7,none⟩=false∧w'.frozen? ⟨WB,8,none⟩=false∧w'.frozen? ⟨EB,0,none⟩=false)from fun wa h1=>by
  have hh:=HR.out.keep _ h1 fun _ _ _=>trivial;have hsz9:=h1.size;have hk:=write_delete hh ⟨docs,terms,q0,q1,q2,q3,book,room,kk,bb⟩ ⟨segs,wt,wv,⟨u0,u1,u2,u3,u4,u5⟩⟩ SA sc id ((HSL.out.mono fun b h=>(HKS.out b h).1).keep h1 fun _ _=>trivial) Hok.out hns Hid9.out Hv.out;rw[Hres.out]at hk;unfold WrM.vals ConfM.list at hk;dsimp only at hk;refine hk.mono ?_;rintro e w' ⟨rfl,g2,g3⟩
  have hk9:Keeps G w w':=(h1.mono fun _ _=>trivial:Keeps G w wa).trans g3
  skip
  exact⟨SA,sc,rfl,⟨(HSL.out.keep hk9 fun b h=>(HKS.out b h).1).mono fun b h=>Or.inl h,g2,hk9⟩,HSS.out _ hk9⟩)
 go_upto_region 1 with fail
 go_region_held3 (fun w'=>w'.cell? ⟨PW,0,none⟩=some (.pointer (some ⟨WB,0,none⟩))∧w'.cell? ⟨PE,0,none⟩=some (.pointer (some ⟨EB,0,none⟩))∧w'.cell? ⟨XB,0,none⟩=some (.pointer (some ⟨X,0,none⟩))∧w'.cell? ⟨OB,1,none⟩=some (J id)∧w'.cell? ⟨X,0,none⟩=some (I docs)∧w'.cell? ⟨X,1,none⟩=some (I terms)∧w'.cell? ⟨X,2,none⟩=some (I q0)∧w'.cell? ⟨X,3,none⟩=some (I q1)∧w'.cell? ⟨X,4,none⟩=some (I q2)∧w'.cell? ⟨X,5,none⟩=some (I q3)∧w'.cell? ⟨X,6,none⟩=some (I book)∧w'.cell? ⟨X,7,none⟩=some (I room)∧w'.cell? ⟨X,8,none⟩=some (kk)∧w'.cell? ⟨X,9,none⟩=some (bb)∧w'.cell? ⟨WS,0,none⟩=some (.slice SA segs.length sc)∧w'.cell? ⟨WS,1,none⟩=some (I wt)∧w'.cell? ⟨WS,2,none⟩=some (J wv)∧w'.cell? ⟨WS,3,none⟩=some (I u0)∧w'.cell? ⟨WS,4,none⟩=some (I u1)∧w'.cell? ⟨WS,5,none⟩=some (I u2)∧w'.cell? ⟨WS,6,none⟩=some (I u3)∧w'.cell? ⟨WS,7,none⟩=some (I u4)∧w'.cell? ⟨WS,8,none⟩=some (I u5)) (go_keep)
  (first|(go_at_call 35;refine(HTB.out _ ?_).mono ?_;(focus((repeat(first|with_reducible exact Keeps.refl _ _|with_reducible refine Keeps.drew ?_|with_reducible refine Keeps.drewN ?_ _|with_reducible refine Keeps.alloc ?_ ?_ _));done));rintro e wb ⟨SA2,s2,rfl,HBW,⟨q0,q1,q2,q3,q4,q5,q6,q7,q8,q9,q10,q11,q12,q13,q14,q15,q16,q17,q18,q19,q20,q21,q22⟩,z0,z1,z2,z3,z4,z5,z6,z7,z8,z9,r0,r1,r2,r3,r4,r5,r6,r7,r8,r9⟩))
 all_goals
  go_wp2_with fail
  go_end0
  have hGW:=HG.out WB (by simp)
  have hGE:=HG.out EB (by simp)
  have hE9:=blk_out9 (HWB.out.keep HBW.out.2.2 hGW) rfl (.slice SA2 segs.length s2) (I t') (J v') (I x0) (I x1) (I x2) (I x3) (I x4) (I x5);have hkn:=keeps_out9 (K:=(· ≠WB)) (b:=WB) (Keeps.refl _ wb) (fun h=>h rfl) (.slice SA2 segs.length s2) (I t') (J v') (I x0) (I x1) (I x2) (I x3) (I x4) (I x5);generalize (((((((((wb.setCell ⟨WB,0,none⟩ (.slice SA2 segs.length s2)).setCell ⟨WB,1,none⟩ (I t')).setCell ⟨WB,2,none⟩ (J v')).setCell ⟨WB,3,none⟩ (I x0)).setCell ⟨WB,4,none⟩ (I x1)).setCell ⟨WB,5,none⟩ (I x2)).setCell ⟨WB,6,none⟩ (I x3)).setCell ⟨WB,7,none⟩ (I x4)).setCell ⟨WB,8,none⟩ (I x5))=W9 at*
  have hke:Keeps (· ≠EB) W9 (W9.setCell ⟨EB,0,none⟩ (I er)):=(Keeps.refl _ _).setCell (p:=⟨EB,0,none⟩) (fun h=>h rfl) _;have hB9:=hE9.keep hke n13;have hEE:=((HEB.out.keep HBW.out.2.2 hGE).keep hkn k13).set 0 (I er);have hkk:Keeps (fun b=>b≠WB∧b≠EB) wb (W9.setCell ⟨EB,0,none⟩ (I er)):=(hkn.mono fun b hb=>hb.1).trans (hke.mono fun b hb=>hb.2);have hs9:=hkk.size;refine hR'.out _ _ ⟨rfl,HBW.out.2.1.keep _ hkk (fun b _ hb=>⟨fun e=>hb (e▸hGW),fun e=>hb (e▸hGE)⟩),(HBW.out.2.2.mono fun b hb=>hb.1).trans (hkk.mono fun b hb=>hb.2),hEE,SA2,s2,hB9,?_⟩
  refine(HBW.out.1.keep hkk fun b hb=>?_).mono fun b hb=>hb.imp (fun h=>h) fun h=>⟨h.1,by omega,h.2.2⟩
  rcases hb with h|h
  ·exact(HKS.out b h).2
  ·have h1:=HWB.out.lt;have h2:=HEB.out.lt;exact⟨by omega,by omega⟩):p:=h
theorem c279 {p:Prop}(h:p:=by
 simp only[List.getElem?_cons_zero,List.getElem?_cons_succ]at c1 c2 c3 b1 b2 kc0 kc1 kc2 kc3 kc4 kc5 kc6 kc7 kc8 kc9 y0 y1 y2 y3 y4 y5 y6 y7 y8;have HSS:=hid (show∀w':World,Keeps G w w'→(w'.cell? ⟨PW,0,none⟩=some (.pointer (some ⟨WB,0,none⟩))∧w'.cell? ⟨PE,0,none⟩=some (.pointer (some ⟨EB,0,none⟩))∧w'.cell? ⟨XB,0,none⟩=some (.pointer (some ⟨X,0,none⟩))∧w'.cell? ⟨OB,1,none⟩=some (J id)∧w'.cell? ⟨OB,2,none⟩=some (.slice FA fs.length fc)∧w'.cell? ⟨X,0,none⟩=some (I docs)∧w'.cell? ⟨X,1,none⟩=some (I terms)∧w'.cell? ⟨X,2,none⟩=some (I q0)∧w'.cell? ⟨X,3,none⟩=some (I q1)∧w'.cell? ⟨X,4,none⟩=some (I q2)∧w'.cell? ⟨X,5,none⟩=some (I q3)∧w'.cell? ⟨X,6,none⟩=some (I book)∧w'.cell? ⟨X,7,none⟩=some (I room)∧w'.cell? ⟨X,8,none⟩=some (kk)∧w'.cell? ⟨X,9,none⟩=some (bb)∧w'.cell? ⟨WS,0,none⟩=some (.slice SA segs.length sc)∧w'.cell? ⟨WS,1,none⟩=some (I wt)∧w'.cell? ⟨WS,2,none⟩=some (J wv)∧w'.cell? ⟨WS,3,none⟩=some (I u0)∧w'.cell? ⟨WS,4,none⟩=some (I u1)∧w'.cell? ⟨WS,5,none⟩=some (I u2)∧w'.cell? ⟨WS,6,none⟩=some (I u3)∧w'.cell? ⟨WS,7,none⟩=some (I u4)∧w'.cell? ⟨WS,8,none⟩=some (I u5))∧(w'.cell? ⟨WB,0,none⟩=some (l0)∧w'.cell? ⟨WB,1,none⟩=some (l1)∧w'.cell? ⟨WB,2,none⟩=some (l2)∧w'.cell? ⟨WB,3,none⟩=some (l3)∧w'.cell? ⟨WB,4,none⟩=some (l4)∧w'.cell? ⟨WB,5,none⟩=some (l5)∧w'.cell? ⟨WB,6,none⟩=some (l6)∧w'.cell? ⟨WB,7,none⟩=some (l7)∧w'.cell? ⟨WB,8,none⟩=some (l8)∧w'.cell? ⟨EB,0,none⟩=some (I e0)∧w'.frozen? ⟨WB,0,none⟩=false∧w'.frozen? ⟨WB,1,none⟩=false∧w'.frozen? ⟨WB,2,none⟩=false∧w'.frozen? ⟨WB,3,none⟩=false∧w'.frozen? ⟨WB,4,none⟩=false∧w'.frozen? ⟨WB,5,none⟩=false∧w'.frozen? ⟨WB,6,none⟩=false∧w'.frozen? ⟨WB,7,none⟩=false∧w'.frozen? ⟨WB,8,none⟩=false∧w'.frozen? ⟨EB,0,none⟩=false)from by
  intro w' k;have ePW:=fun i=>World.cell?_of_block (a:=⟨PW,i,none⟩) (k.block PW (HG.out PW (by simp)))
  have ePE:=fun i=>World.cell?_of_block (a:=⟨PE,i,none⟩) (k.block PE (HG.out PE (by simp)))
  have eXB:=fun i=>World.cell?_of_block (a:=⟨XB,i,none⟩) (k.block XB (HG.out XB (by simp)))
  have eOB:=fun i=>World.cell?_of_block (a:=⟨OB,i,none⟩) (k.block OB (HG.out OB (by simp)))
  have eX:=fun i=>World.cell?_of_block (a:=⟨X,i,none⟩) (k.block X (HG.out X (by simp)))
  have eWS:=fun i=>World.cell?_of_block (a:=⟨WS,i,none⟩) (k.block WS (HG.out WS (by simp)))
  have hw9:=HWB.out.keep k (HG.out WB (by simp))
  have he9:=HEB.out.keep k (HG.out EB (by simp))
  have hf:=hw9.free;have hfe:=he9.free 0;obtain⟨z0,z1,z2,z3,z4,z5,z6,z7,z8⟩:=hw9.c9;have z9:=he9.cell 0;simp only[List.getElem?_cons_zero]at z9;exact⟨⟨(ePW 0).trans c1,(ePE 0).trans c2,(eXB 0).trans c3,(eOB 1).trans b1,(eOB 2).trans b2,(eX 0).trans kc0,(eX 1).trans kc1,(eX 2).trans kc2,(eX 3).trans kc3,(eX 4).trans kc4,(eX 5).trans kc5,(eX 6).trans kc6,(eX 7).trans kc7,(eX 8).trans kc8,(eX 9).trans kc9,(eWS 0).trans y0,(eWS 1).trans y1,(eWS 2).trans y2,(eWS 3).trans y3,(eWS 4).trans y4,(eWS 5).trans y5,(eWS 6).trans y6,(eWS 7).trans y7,(eWS 8).trans y8⟩,z0,z1,z2,z3,z4,z5,z6,z7,z8,z9,hf 0,hf 1,hf 2,hf 3,hf 4,hf 5,hf 6,hf 7,hf 8,hfe⟩)
 have HTB:=hid (show∀wa,Keeps (fun _=>True) w wa→Calls Tryz.prog 36 #[.pointer (some ⟨r,0,none⟩),.agg #[I docs,I terms,I q0,I q1,I q2,I q3,I book,I room,kk,bb],.agg #[.slice SA segs.length sc,I wt,J wv,I u0,I u1,I u2,I u3,I u4,I u5],.agg #[J id,.slice FA fs.length fc]] wa fun e w'=>∃(SA2:Option Addr) (s2:Nat),e= .returned (.tuple #[.agg #[.slice SA2 segs'.length s2,I t',J v',I x0,I x1,I x2,I x3,I x4,I x5],I er])∧Hid (SlAt w' (fun b=>Ks b∨(w.heap.size≤b∧b<w'.heap.size∧b≠r∧b≠m∧b≠c)) 3 (.slice SA2 segs'.length s2) segs'.length (segs'.flatMap SegM.cells)∧RM w' G r m c sz∧Keeps G w w')∧(w'.cell? ⟨PW,0,none⟩=some (.pointer (some ⟨WB,0,none⟩))∧w'.cell? ⟨PE,0,none⟩=some (.pointer (some ⟨EB,0,none⟩))∧w'.cell? ⟨XB,0,none⟩=some (.pointer (some ⟨X,0,none⟩))∧w'.cell? ⟨OB,1,none⟩=some (J id)∧w'.cell? ⟨OB,2,none⟩=some (.slice FA fs.length fc)∧w'.cell? ⟨X,0,none⟩=some (I docs)∧w'.cell? ⟨X,1,none⟩=some (I terms)∧w'.cell? ⟨X,2,none⟩=some (I q0)∧w'.cell? ⟨X,3,none⟩=some (I q1)∧w'.cell? ⟨X,4,none⟩=some (I q2)∧w'.cell? ⟨X,5,none⟩=some (I q3)∧w'.cell? ⟨X,6,none⟩=some (I book)∧w'.cell? ⟨X,7,none⟩=some (I room)∧w'.cell? ⟨X,8,none⟩=some (kk)∧w'.cell? ⟨X,9,none⟩=some (bb)∧w'.cell? ⟨WS,0,none⟩=some (.slice SA segs.length sc)∧w'.cell? ⟨WS,1,none⟩=some (I wt)∧w'.cell? ⟨WS,2,none⟩=some (J wv)∧w'.cell? ⟨WS,3,none⟩=some (I u0)∧w'.cell? ⟨WS,4,none⟩=some (I u1)∧w'.cell? ⟨WS,5,none⟩=some (I u2)∧w'.cell? ⟨WS,6,none⟩=some (I u3)∧w'.cell? ⟨WS,7,none⟩=some (I u4)∧w'.cell? ⟨WS,8,none⟩=some (I u5))∧(w'.cell? ⟨WB,0,none⟩=some (l0)∧w'.cell? ⟨WB,1,none⟩=some (l1)∧w'.cell? ⟨WB,2,none⟩=some (l2)∧w'.cell? ⟨WB,3,none⟩=some (l3)∧w'.cell? ⟨WB,4,none⟩=some (l4)∧w'.cell? ⟨WB,5,none⟩=some (l5)∧w'.cell? ⟨WB,6,none⟩=some (l6)∧w'.cell? ⟨WB,7,none⟩=some (l7)∧w'.cell? ⟨WB,8,none⟩=some (l8)∧w'.cell? ⟨EB,0,none⟩=some (I e0)∧w'.frozen? ⟨WB,0,none⟩=false∧w'.frozen? ⟨WB,1,none⟩=false∧w'.frozen? ⟨WB,2,none⟩=false∧w'.frozen? ⟨WB,3,none⟩=false∧w'.frozen? ⟨WB,4,none⟩=false∧w'.frozen? ⟨WB,5,none⟩=false∧w'.frozen? ⟨WB,6,none⟩=false∧w'.frozen? ⟨WB,7,none⟩=false∧w'.frozen? ⟨WB,8,none⟩=false∧w'.frozen? ⟨EB,0,none⟩=false)from fun wa h1=>by
  have hh:=HR.out.keep _ h1 fun _ _ _=>trivial;have hsz9:=h1.size;have hk:=write_add hh (HG.out 0 (by simp)) (HT.out.keep h1 trivial) (HF.out.keep (h1.mono fun _ _=>trivial)) ⟨docs,terms,q0,q1,q2,q3,book,room,kk,bb⟩ Hcf.out ⟨segs,wt,wv,⟨u0,u1,u2,u3,u4,u5⟩⟩ live SA sc id fs FA fc Hlive.out (fun b h=>(HKS.out b h).1) (HSL.out.keep h1 fun _ _=>trivial) (HFL.out.keep h1 fun _ _=>trivial) hfn Hok.out hns Hid9.out Hv.out Hui.out Htm.out Hlb.out
  rw[Hres.out]at hk;unfold WrM.vals ConfM.list at hk;dsimp only at hk;refine hk.mono ?_;rintro e w' ⟨v9,K',g0,rfl,g1,g2,g3⟩;have hk9:Keeps G w w':=(h1.mono fun _ _=>trivial:Keeps G w wa).trans g3;have g5:=g1;obtain⟨SA2,s2,rfl,_⟩:=g1;have hlt:=g2.lt;have hnr:=g2.kr;have hnm:=g2.km;have hnc:=g2.kc;exact⟨SA2,s2,rfl,⟨g5.mono (fun b hb=>hb.imp (fun h=>h) fun h=>⟨by omega,hlt b h.1,fun e=>hnr (e▸h.1),fun e=>hnm (e▸h.1),fun e=>hnc (e▸h.1)⟩),g2.mono g0,hk9⟩,HSS.out _ hk9⟩)
 go_upto_region 2 with fail
 go_region_held3 (fun w'=>w'.cell? ⟨PW,0,none⟩=some (.pointer (some ⟨WB,0,none⟩))∧w'.cell? ⟨PE,0,none⟩=some (.pointer (some ⟨EB,0,none⟩))∧w'.cell? ⟨XB,0,none⟩=some (.pointer (some ⟨X,0,none⟩))∧w'.cell? ⟨OB,1,none⟩=some (J id)∧w'.cell? ⟨OB,2,none⟩=some (.slice FA fs.length fc)∧w'.cell? ⟨X,0,none⟩=some (I docs)∧w'.cell? ⟨X,1,none⟩=some (I terms)∧w'.cell? ⟨X,2,none⟩=some (I q0)∧w'.cell? ⟨X,3,none⟩=some (I q1)∧w'.cell? ⟨X,4,none⟩=some (I q2)∧w'.cell? ⟨X,5,none⟩=some (I q3)∧w'.cell? ⟨X,6,none⟩=some (I book)∧w'.cell? ⟨X,7,none⟩=some (I room)∧w'.cell? ⟨X,8,none⟩=some (kk)∧w'.cell? ⟨X,9,none⟩=some (bb)∧w'.cell? ⟨WS,0,none⟩=some (.slice SA segs.length sc)∧w'.cell? ⟨WS,1,none⟩=some (I wt)∧w'.cell? ⟨WS,2,none⟩=some (J wv)∧w'.cell? ⟨WS,3,none⟩=some (I u0)∧w'.cell? ⟨WS,4,none⟩=some (I u1)∧w'.cell? ⟨WS,5,none⟩=some (I u2)∧w'.cell? ⟨WS,6,none⟩=some (I u3)∧w'.cell? ⟨WS,7,none⟩=some (I u4)∧w'.cell? ⟨WS,8,none⟩=some (I u5)) (go_keep)
  (first|(go_at_call 36;refine(HTB.out _ ?_).mono ?_;(focus((repeat(first|with_reducible exact Keeps.refl _ _|with_reducible refine Keeps.drew ?_|with_reducible refine Keeps.drewN ?_ _|with_reducible refine Keeps.alloc ?_ ?_ _));done));rintro e wb ⟨SA2,s2,rfl,HBW,⟨q0,q1,q2,q3,q4,q5,q6,q7,q8,q9,q10,q11,q12,q13,q14,q15,q16,q17,q18,q19,q20,q21,q22,q23⟩,z0,z1,z2,z3,z4,z5,z6,z7,z8,z9,r0,r1,r2,r3,r4,r5,r6,r7,r8,r9⟩))
 all_goals
  go_wp2_with fail
  go_end0
  have hGW:=HG.out WB (by simp)
  have hGE:=HG.out EB (by simp)
  have hE9:=blk_out9 (HWB.out.keep HBW.out.2.2 hGW) rfl (.slice SA2 segs'.length s2) (I t') (J v') (I x0) (I x1) (I x2) (I x3) (I x4) (I x5);have hkn:=keeps_out9 (K:=(· ≠WB)) (b:=WB) (Keeps.refl _ wb) (fun h=>h rfl) (.slice SA2 segs'.length s2) (I t') (J v') (I x0) (I x1) (I x2) (I x3) (I x4) (I x5);generalize (((((((((wb.setCell ⟨WB,0,none⟩ (.slice SA2 segs'.length s2)).setCell ⟨WB,1,none⟩ (I t')).setCell ⟨WB,2,none⟩ (J v')).setCell ⟨WB,3,none⟩ (I x0)).setCell ⟨WB,4,none⟩ (I x1)).setCell ⟨WB,5,none⟩ (I x2)).setCell ⟨WB,6,none⟩ (I x3)).setCell ⟨WB,7,none⟩ (I x4)).setCell ⟨WB,8,none⟩ (I x5))=W9 at*
  have hke:Keeps (· ≠EB) W9 (W9.setCell ⟨EB,0,none⟩ (I er)):=(Keeps.refl _ _).setCell (p:=⟨EB,0,none⟩) (fun h=>h rfl) _;have hB9:=hE9.keep hke n13;have hEE:=((HEB.out.keep HBW.out.2.2 hGE).keep hkn k13).set 0 (I er);have hkk:Keeps (fun b=>b≠WB∧b≠EB) wb (W9.setCell ⟨EB,0,none⟩ (I er)):=(hkn.mono fun b hb=>hb.1).trans (hke.mono fun b hb=>hb.2);have hs9:=hkk.size;refine hR'.out _ _ ⟨rfl,HBW.out.2.1.keep _ hkk (fun b _ hb=>⟨fun e=>hb (e▸hGW),fun e=>hb (e▸hGE)⟩),(HBW.out.2.2.mono fun b hb=>hb.1).trans (hkk.mono fun b hb=>hb.2),hEE,SA2,s2,hB9,?_⟩
  refine(HBW.out.1.keep hkk fun b hb=>?_).mono fun b hb=>hb.imp (fun h=>h) fun h=>⟨h.1,by omega,h.2.2⟩
  rcases hb with h|h
  ·exact(HKS.out b h).2
  ·have h1:=HWB.out.lt;have h2:=HEB.out.lt;exact⟨by omega,by omega⟩):p:=h
theorem c280 {p:Prop}(h:p:=by
 refine calls_hide fun R' hR'=>?_;unfold PlanM.val V6.val
 go_enter Tryz.func108,Tryz.ntmps108
 go_wp2_with fail
 refine wp_gen (fun W=>Blk W w.heap.size [I b0,I b1,I b2,I b3,I b4,I b5,I s0,I s1,I s2,I s3,I s4,I s5,I pc,I ps,I pl]∧Blk W (w.heap.size+1) [I u0,I u1,I u2,I u3,I u4,I u5]∧Blk W (w.heap.size+1+1) [I 0,I 0,I 0,I 0,I 0,I 0]∧Keeps (· <w.heap.size) w W) ⟨?_,?_,?_,?_⟩ ?_
 ·exact c71
 ·exact bA
 ·exact bA
 ·exact kA
 rintro W ⟨hB0,hB1,hB2,hk⟩;exact zz42):p:=h
theorem c281 {p:Prop}(h:p:=by
 have c0:W.cell? ⟨w.heap.size,0,none⟩=some (I b0):=hB0.cell 0;have c6:W.cell? ⟨w.heap.size,6,none⟩=some (I s0):=hB0.cell 6;have d4:W.cell? ⟨w.heap.size+1,0,none⟩=some (I u0):=hB1.cell 0;have f1:=hB1.free 0
 go_quiet (fail)
 go_wp2_with fail
 go_quiet (fail)
 go_wp2_with fail
 go_quiet (fail)
 go_wp2_with fail
 clear c0 c6 d4 f1;refine wp_gen (fun W'=>Blk W' (w.heap.size+1) [I (u0+n),I u1,I u2,I u3,I u4,I u5]∧Blk W' (w.heap.size+1+1) [I 0,I 0,I 0,I 0,I 0,I 0]∧Keeps (· <w.heap.size) w W') ⟨?_,?_,?_⟩ ?_
 ·first|(simpa using((hB1.drewN _).set 0 (I (u0+n))))|(simpa using(((hB1.drewN _).drewN _).set 0 (I (u0+n))))|(simpa using((((hB1.drewN _).drewN _).drewN _).set 0 (I (u0+n))))
 ·exact bA
 ·exact kA
 have zz108:=@c561;exact c560):p:=h
theorem c282 {p:Prop}(h:p:=by
 have c0:W.cell? ⟨w.heap.size,1,none⟩=some (I b1):=hB0.cell 1;have c6:W.cell? ⟨w.heap.size,7,none⟩=some (I s1):=hB0.cell 7;have d4:W.cell? ⟨w.heap.size+1,1,none⟩=some (I u1):=hB1.cell 1;have f1:=hB1.free 1
 go_quiet (fail)
 go_wp2_with fail
 go_quiet (fail)
 go_wp2_with fail
 go_quiet (fail)
 go_wp2_with fail
 clear c0 c6 d4 f1;refine wp_gen (fun W'=>Blk W' (w.heap.size+1) [I u0,I (u1+n),I u2,I u3,I u4,I u5]∧Blk W' (w.heap.size+1+1) [I 0,I 0,I 0,I 0,I 0,I 0]∧Keeps (· <w.heap.size) w W') ⟨?_,?_,?_⟩ ?_
 ·first|(simpa using((hB1.drewN _).set 1 (I (u1+n))))|(simpa using(((hB1.drewN _).drewN _).set 1 (I (u1+n))))|(simpa using((((hB1.drewN _).drewN _).drewN _).set 1 (I (u1+n))))
 ·exact bA
 ·exact kA
 have zz109:=@c564;exact c563):p:=h
theorem c283 {p:Prop}(h:p:=by
 have c0:W.cell? ⟨w.heap.size,2,none⟩=some (I b2):=hB0.cell 2;have c6:W.cell? ⟨w.heap.size,8,none⟩=some (I s2):=hB0.cell 8;have d4:W.cell? ⟨w.heap.size+1,2,none⟩=some (I u2):=hB1.cell 2;have f1:=hB1.free 2
 go_quiet (fail)
 go_wp2_with fail
 go_quiet (fail)
 go_wp2_with fail
 go_quiet (fail)
 go_wp2_with fail
 clear c0 c6 d4 f1;refine wp_gen (fun W'=>Blk W' (w.heap.size+1) [I u0,I u1,I (u2+n),I u3,I u4,I u5]∧Blk W' (w.heap.size+1+1) [I 0,I 0,I 0,I 0,I 0,I 0]∧Keeps (· <w.heap.size) w W') ⟨?_,?_,?_⟩ ?_
 ·first|(simpa using((hB1.drewN _).set 2 (I (u2+n))))|(simpa using(((hB1.drewN _).drewN _).set 2 (I (u2+n))))|(simpa using((((hB1.drewN _).drewN _).drewN _).set 2 (I (u2+n))))
 ·exact bA
 ·exact kA
 have zz110:=@c567;exact c566):p:=h
theorem c284 {p:Prop}(h:p:=by
 have c0:W.cell? ⟨w.heap.size,3,none⟩=some (I b3):=hB0.cell 3;have c6:W.cell? ⟨w.heap.size,9,none⟩=some (I s3):=hB0.cell 9;have d4:W.cell? ⟨w.heap.size+1,3,none⟩=some (I u3):=hB1.cell 3;have f1:=hB1.free 3
 go_quiet (fail)
 go_wp2_with fail
 go_quiet (fail)
 go_wp2_with fail
 go_quiet (fail)
 go_wp2_with fail
 clear c0 c6 d4 f1;refine wp_gen (fun W'=>Blk W' (w.heap.size+1) [I u0,I u1,I u2,I (u3+n),I u4,I u5]∧Blk W' (w.heap.size+1+1) [I 0,I 0,I 0,I 0,I 0,I 0]∧Keeps (· <w.heap.size) w W') ⟨?_,?_,?_⟩ ?_
 ·first|(simpa using((hB1.drewN _).set 3 (I (u3+n))))|(simpa using(((hB1.drewN _).drewN _).set 3 (I (u3+n))))|(simpa using((((hB1.drewN _).drewN _).drewN _).set 3 (I (u3+n))))
 ·exact bA
 ·exact kA
 have zz111:=@c570;exact c569):p:=h
theorem c285 {p:Prop}(h:p:=by
 have c0:W.cell? ⟨w.heap.size,4,none⟩=some (I b4):=hB0.cell 4;have c6:W.cell? ⟨w.heap.size,10,none⟩=some (I s4):=hB0.cell 10;have d4:W.cell? ⟨w.heap.size+1,4,none⟩=some (I u4):=hB1.cell 4;have f1:=hB1.free 4
 go_quiet (fail)
 go_wp2_with fail
 go_quiet (fail)
 go_wp2_with fail
 go_quiet (fail)
 go_wp2_with fail
 clear c0 c6 d4 f1;refine wp_gen (fun W'=>Blk W' (w.heap.size+1) [I u0,I u1,I u2,I u3,I (u4+n),I u5]∧Blk W' (w.heap.size+1+1) [I 0,I 0,I 0,I 0,I 0,I 0]∧Keeps (· <w.heap.size) w W') ⟨?_,?_,?_⟩ ?_
 ·first|(simpa using((hB1.drewN _).set 4 (I (u4+n))))|(simpa using(((hB1.drewN _).drewN _).set 4 (I (u4+n))))|(simpa using((((hB1.drewN _).drewN _).drewN _).set 4 (I (u4+n))))
 ·exact bA
 ·exact kA
 have zz112:=@c573;exact c572):p:=h
theorem c286 {p:Prop}(h:p:=by
 refine wp_gen (fun W=>Blk W w.heap.size [I b0,I b1,I b2,I b3,I b4,I b5,I s0,I s1,I s2,I s3,I s4,I s5,I pc,I ps,I pl]∧
  Blk W (w.heap.size+1) [I u0,I u1,I u2,I u3,I u4,I u5]∧Blk W (w.heap.size+1+1) [I 0,I 0,I 0,I 0,I 0,I 0]∧Keeps (· <w.heap.size) w W) ⟨?_,?_,?_,?_⟩ ?_
 ·exact bA
 ·exact bA
 ·exact bA
 ·exact kA
 rintro W ⟨hB0,hB1,hB2,hk⟩;have c0:=hB0.cell;have c1:=hB1.cell;have f1:=hB1.free;have f2:=hB2.free;exact zz43):p:=h
theorem c287 {p:Prop}(h:p:=by
 have c4:=hB0.cell 4;have d4:=hB1.cell 4;simp only[List.getElem?_cons_zero,List.getElem?_cons_succ]at c4 d4;clear c0 c1
 go_quiet (fail)
 go_wp2_with fail
 clear c4 d4 f1 f2;refine wp_gen (fun W'=>Blk W' (w.heap.size+1) [I u0,I u1,I u2,I u3,I (u4+n),I u5]∧Blk W' (w.heap.size+1+1) [I 0,I 0,I 0,I 0,I 0,I 0]∧Keeps (· <w.heap.size) w W') ⟨?_,?_,?_⟩ ?_
 ·simpa using((hB1.drewN nq).set 4 (I (u4+n)))
 ·exact bA
 ·exact kA
 have zz112:=@c574;exact c572):p:=h
theorem c288 {p:Prop}(h:p:=by
 have c4:=hB0.cell 0;have d4:=hB1.cell 0;simp only[List.getElem?_cons_zero,List.getElem?_cons_succ]at c4 d4;clear c0 c1
 go_quiet (fail)
 go_wp2_with fail
 clear c4 d4 f1 f2;refine wp_gen (fun W'=>Blk W' (w.heap.size+1) [I (u0+n),I u1,I u2,I u3,I u4,I u5]∧Blk W' (w.heap.size+1+1) [I 0,I 0,I 0,I 0,I 0,I 0]∧Keeps (· <w.heap.size) w W') ⟨?_,?_,?_⟩ ?_
 ·simpa using((hB1.drewN nq).set 0 (I (u0+n)))
 ·exact bA
 ·exact kA
 have zz108:=@c562;exact c560):p:=h
theorem c289 {p:Prop}(h:p:=by
 have c4:=hB0.cell 1;have d4:=hB1.cell 1;simp only[List.getElem?_cons_zero,List.getElem?_cons_succ]at c4 d4;clear c0 c1
 go_quiet (fail)
 go_wp2_with fail
 clear c4 d4 f1 f2;refine wp_gen (fun W'=>Blk W' (w.heap.size+1) [I u0,I (u1+n),I u2,I u3,I u4,I u5]∧Blk W' (w.heap.size+1+1) [I 0,I 0,I 0,I 0,I 0,I 0]∧Keeps (· <w.heap.size) w W') ⟨?_,?_,?_⟩ ?_
 ·simpa using((hB1.drewN nq).set 1 (I (u1+n)))
 ·exact bA
 ·exact kA
 have zz109:=@c565;exact c563):p:=h
theorem c290 {p:Prop}(h:p:=by
 have c4:=hB0.cell 2;have d4:=hB1.cell 2;simp only[List.getElem?_cons_zero,List.getElem?_cons_succ]at c4 d4;clear c0 c1
 go_quiet (fail)
 go_wp2_with fail
 clear c4 d4 f1 f2;refine wp_gen (fun W'=>Blk W' (w.heap.size+1) [I u0,I u1,I (u2+n),I u3,I u4,I u5]∧Blk W' (w.heap.size+1+1) [I 0,I 0,I 0,I 0,I 0,I 0]∧Keeps (· <w.heap.size) w W') ⟨?_,?_,?_⟩ ?_
 ·simpa using((hB1.drewN nq).set 2 (I (u2+n)))
 ·exact bA
 ·exact kA
 have zz110:=@c568;exact c566):p:=h
theorem c291 {p:Prop}(h:p:=by
 have c4:=hB0.cell 3;have d4:=hB1.cell 3;simp only[List.getElem?_cons_zero,List.getElem?_cons_succ]at c4 d4;clear c0 c1
 go_quiet (fail)
 go_wp2_with fail
 clear c4 d4 f1 f2;refine wp_gen (fun W'=>Blk W' (w.heap.size+1) [I u0,I u1,I u2,I (u3+n),I u4,I u5]∧Blk W' (w.heap.size+1+1) [I 0,I 0,I 0,I 0,I 0,I 0]∧Keeps (· <w.heap.size) w W') ⟨?_,?_,?_⟩ ?_
 ·simpa using((hB1.drewN nq).set 3 (I (u3+n)))
 ·exact bA
 ·exact kA
 have zz111:=@c571;exact c569):p:=h
theorem c292 {p:Prop}(h:p:=by
 have c4:=hB0.cell 5;have d4:=hB1.cell 5;simp only[List.getElem?_cons_zero,List.getElem?_cons_succ]at c4 d4;clear c0 c1
 go_quiet (fail)
 go_wp2_with fail
 clear c4 d4 f1 f2;refine wp_gen (fun W'=>Blk W' (w.heap.size+1) [I u0,I u1,I u2,I u3,I u4,I (u5+n)]∧Blk W' (w.heap.size+1+1) [I 0,I 0,I 0,I 0,I 0,I 0]∧Keeps (· <w.heap.size) w W') ⟨?_,?_,?_⟩ ?_
 ·simpa using((hB1.drewN nq).set 5 (I (u5+n)))
 ·exact bA
 ·exact kA
 have zz161:=@c757;exact c756):p:=h
theorem c293 {p:Prop}(h:p:=by
 obtain⟨segs,wt,wv,u0,u1,u2,u3,u4,u5⟩:=W;dsimp only at*;have fin:∀{e:Ending} {w':World} {er:Int},(e= .returned (.tuple #[I er,.agg #[.slice A cs.length cp,.slice A2 segs.length cp2,I wt,J wv,I u0,I u1,I u2,I u3,I u4,I u5]])∧Keeps (· <w.heap.size) w w')→
   RefOut w w' K e er cs ⟨segs,wt,wv,⟨u0,u1,u2,u3,u4,u5⟩⟩:=fun h=>RefOut.same (W:=⟨segs,wt,wv,⟨u0,u1,u2,u3,u4,u5⟩⟩) h hb hsl hs2
 exact zz44):p:=h
theorem c294 {p:Prop}(h:p:=by
 have hq:∀b,(rplaceL cs id segs 0).2.2=b→rplaceL cs id segs 0=((rplaceL cs id segs 0).1,(rplaceL cs id segs 0).2.1,b):=fun b h=>Prod.ext rfl (Prod.ext rfl h)
 cases hway with
 |dup h1=>exact(radd_dup cs segs wt wv u0 u1 u2 u3 u4 u5 C C.plan live id fs FA fc A cp A2 cp2 w K hb hsl hn0 hcn hs2 hlive hns hok hfl hfn hcf htk (hq _ h1)).mono fun _ _ h=>fin h
 |seg h1 h2=>exact(radd_seg cs segs wt wv u0 u1 u2 u3 u4 u5 C C.plan live id fs FA fc A cp A2 cp2 w K hb hsl hn0 hcn hs2 hlive hns hok hfl hfn hcf htk (hq _ h1) h2).mono fun _ _ h=>fin h
 |terms h1 h2 h3=>
  exact(radd_terms cs segs wt wv u0 u1 u2 u3 u4 u5 C C.plan live id fs FA fc A cp A2 cp2 w K hb hsl hn0 hcn hs2 hlive hns hok hfl hfn hcf htk (hq _ h1) h2 P hP hl hpf s hrow hs1 hu hwt ⟨hver,by omega⟩ hall hlk (fr:=(needsP C.plan all 0 zero6).1)
   (m0:=(needsP C.plan all 0 zero6).2.a0) (m1:=(needsP C.plan all 0 zero6).2.a1) (m2:=(needsP C.plan all 0 zero6).2.a2) (m3:=(needsP C.plan all 0 zero6).2.a3) (m4:=(needsP C.plan all 0 zero6).2.a4) (m5:=(needsP C.plan all 0 zero6).2.a5) rfl h3).mono fun _ _ h=>fin h
 |full h1 h2 h3 h4=>
  exact(radd_full cs segs wt wv u0 u1 u2 u3 u4 u5 C C.plan live id fs FA fc A cp A2 cp2 w K hb hsl hn0 hcn hs2 hlive hns hok hfl hfn hcf htk (hq _ h1) h2 P hP hl hpf s hrow hs1 hu hwt ⟨hver,by omega⟩ hall hlk (fr:=(needsP C.plan all 0 zero6).1)
   (m0:=(needsP C.plan all 0 zero6).2.a0) (m1:=(needsP C.plan all 0 zero6).2.a1) (m2:=(needsP C.plan all 0 zero6).2.a2) (m3:=(needsP C.plan all 0 zero6).2.a3) (m4:=(needsP C.plan all 0 zero6).2.a4) (m5:=(needsP C.plan all 0 zero6).2.a5) rfl h3 hui h4).mono fun _ _ h=>fin h
 |good cs1 u' qa h1 h2 h3 h4 h5 h6 h7=>
  have hml:(moreDocs segs).length=segs.length:=by
   obtain⟨k,hk,hk2⟩:=last_ix hlive;rw[←moreDocs_set hk hk2,List.length_set]
  have hlen:=h5.len;refine(radd_good cs segs wt wv u0 u1 u2 u3 u4 u5 C C.plan live id fs FA fc A cp A2 cp2 w K hb hsl hn0 hcn hs2 hlive hns hok hfl hfn hcf htk (hq _ h1) h2 P hP hl hpf s hrow hs1 hu hwt ⟨hver,by omega⟩ hall hlk (fr:=(needsP C.plan all 0 zero6).1)
   (m0:=(needsP C.plan all 0 zero6).2.a0) (m1:=(needsP C.plan all 0 zero6).2.a1) (m2:=(needsP C.plan all 0 zero6).2.a2) (m3:=(needsP C.plan all 0 zero6).2.a3) (m4:=(needsP C.plan all 0 zero6).2.a4) (m5:=(needsP C.plan all 0 zero6).2.a5) rfl h3 hui h4 cs1 u' h5 qa (by rw[←hbase];exact h6) (by omega)).mono ?_
  rintro e w' ⟨NL,A3,cp3,rfl,hge,hNL,hsg,hk⟩;have hll:((layL cs1 qa id (toks.length:Int) (wv+1)).set 1 (wv+1)).length=cs.length:=by unfold layL;simp[hlen]
  refine⟨.slice (some ⟨NL,0,none⟩) cs.length cs.length,.slice A3 segs.length cp3,?_,?_,?_,hk⟩
  ·show _=Ending.returned (.tuple #[I 0,.agg #[.slice (some ⟨NL,0,none⟩) cs.length cs.length,.slice A3 segs.length cp3,I (wt+(needsP C.plan all 0 zero6).1),J (wv+1),I u'.a0,I u'.a1,I u'.a2,I u'.a3,I u'.a4,I u'.a5]])
   rfl
  ·rw[hll];exact(SlAt.of_blk9 hNL (by rw[List.length_map];exact hll) hcn).mono fun b h=>by rw[h];exact Or.inr ⟨hge,hNL.lt⟩
  ·show SlAt w' _ 3 _ (moreDocs segs).length _;rw[hml];exact hsg.mono fun b h=>Or.inr h):p:=h
theorem c295 {p:Prop}(h:p:=by
 unfold rdelL at hr;dsimp only at hr
 cases hp:(rplaceL cs id segs 0).2.2 with
 |false=>
  rw[if_pos hp]at hr;injection hr with e1 e2
  injection e2 with e2 e3
  subst e1 e2 e3;exact(ref12_del_none cs segs wt wv u0 u1 u2 u3 u4 u5 id A cp A2 cp2 w K hb hsl hn0 hcn hs2 hl0 hns hok (i:=(rplaceL cs id segs 0).1) (d:=(rplaceL cs id segs 0).2.1) (Prod.ext rfl (Prod.ext rfl hp))).mono fun _ _ h=>fin h
 |true=>
  obtain⟨j,d,qa,x,h1,h2,h3,h4,h5,h6,h7,h8⟩:=hfound hp;rw[if_neg (by rw[hp];decide),h2]at hr
  dsimp only at hr;rw[Int.toNat_natCast,h1]at hr;dsimp only at hr;rw[h4,Int.toNat_natCast]at hr;refine(ref12_del_found cs segs wt wv u0 u1 u2 u3 u4 u5 id A cp A2 cp2 w K hb hsl hn0 hcn hs2 hl0 hns hok h2 h1 ⟨by omega,by have:=(hok x (List.mem_of_getElem? h1)).2;omega⟩ h4 h5 (by omega) hu ⟨hver,by omega⟩).mono ?_
  intro e w' hres
  by_cases h0:cs.getD qa 0≠0
  ·rw[if_pos h0]at hr;injection hr with e1 e2
   injection e2 with e2 e3
   subst e1 e2 e3;obtain⟨g1,g2⟩:=hres;rw[if_pos h0]at g1;exact fin ⟨g1,g2⟩
  ·rw[if_neg h0]at hr;injection hr with e1 e2
   injection e2 with e2 e3
   subst e1 e2 e3;obtain⟨g1,hk⟩:=hres;rw[if_neg h0]at g1;obtain⟨NB,A3,cp3,rfl,hge,hNB,hog⟩:=g1;refine⟨.slice (some ⟨NB,0,none⟩) cs.length cs.length,.slice A3 segs.length cp3,rfl,?_,?_,hk⟩
   ·have hll:((cs.set qa (wv+1)).set 1 (wv+1)).length=cs.length:=by simp
    rw[hll];exact(SlAt.of_blk9 hNB (by rw[List.length_map];exact hll) hcn).mono fun b h=>by rw[h];exact Or.inr ⟨hge,hNB.lt⟩
   ·exact(own_slAtL hog).mono fun b hb=>Or.inr (ownB_lt hog hb)):p:=h
theorem c296 {p:Prop}(h:p:=by
 have HRQ:=hid hres;have gl:((lf:Int)==0)=false:=by simp[hl0]
 have gw:IntKind.i64.wrap ((lf:Int)-1)=(lf:Int)-1:=IntWalk.i64_in _ (by omega)
 have HO:=hid hO;have HBD:=hid (show∀j,j≤3→0≤o.uK j∧o.uK j+256*m≤10000000 from fun j hj=>by have:=hbd j hj;omega)
 have HL:=hid (show 0<lf∧lf≤256∧k'≤3 from by omega)
 have HLT:=hid hlt;clear hres hbd hKO HI hk' him hlf hO hl0
 go_wp2_with fail
 exact zz45):p:=h
theorem c297 {p:Prop}(h:p:=by
 go_roundw
 case rel=>
  refine⟨i+1,m,lf-1,k',o,by first|rfl|(have hx:=HL.out;congr 1;omega),by first|rfl|go_num,by first|rfl|go_num,HL.out.2.2,by have:=HL.out;omega,HIM.out,hid ⟨?_,?_,HBD.out,HRQ.out⟩⟩
  ·repeat(first|exact HO.out|with_reducible refine Blk.drew ?_)
  ·repeat(first|with_reducible exact HKO.out|with_reducible refine Keeps.drew ?_)
 case measure=>have:=HLT.out;simp[intOf];omega):p:=h
theorem c298 {p:Prop}(h:p:=by
 exact c297):p:=h
theorem c299 {p:Prop}(h:p:=by
 have hd:=decode_pos s pos;have hd4:=decode_four s pos;have hex:=HE.out;rw[runesF_next hp (by omega)]at hex
 have hmu:wr.iterPos w.heap.size=pos:=by simp[World.iterPos,hit]
 have hR1:=HR.out.iter (pos+(Utf8.decode s pos).2);generalize wr.iterAt w.heap.size s (pos+(Utf8.decode s pos).2)=W1 at hnx hR1;generalize ((Utf8.decode s pos).1:Int)=c at hnx hex;generalize (Utf8.decode s pos).2=d at*;have hBs:=hR1.lt;exact zz46):p:=h
theorem c300 {p:Prop}(h:p:=by
 have Hex:=hid hex;have HR1:=hid hR1;clear hex hR1;clear HE HR;obtain⟨i0,hi,hz0,hz1,hz2⟩:=info_partsF Tryz.infoI32
 go_wp2_with (at_builtin;go_must (refine wpList_append_own_at _ rfl _ _ 179 rfl ((w.heap.size+1)) 21 i0 (.int .i32 0) 1 4 Tryz.underlying179 hi hz0 hz1 hz2 rfl (by decide) (.slice A acc.length cp) acc.length (acc.map (Value.int .i32)) rfl (ownB_keepS HR1.out.own ((Keeps.refl _ _).alloc (fun b hb=>hb) _)) ⟨W1.heap.size,0,none⟩ 1 1 [.int .i32 c] rfl (by simp) (own_news (own_lit W1 0 _ _ 1 1 [.int .i32 c] rfl rfl (by decide) (Nat.zero_le _))) ?_ ?_ ?_ ?_ ?_))
 all_goals(try(first|with_reducible exact one1 _ _|with_reducible exact one2 _ _ _|with_reducible exact one4 _ _ _ _ _|with_reducible exact oneM _ _|exact rfl|exact fun _ _=>rfl|exact⟨rfl,rfl⟩|exact⟨rfl,rfl,rfl⟩|exact⟨rfl,rfl,rfl,rfl⟩|(unfold maxLen;omega)|omega|(simp;omega)|(simp;done)))
 (try clear hi)
 (try clear hz0)
 (try clear hz1)
 (try clear hz2)
 intro v' w6 hown hgr _ hf;have hl1:acc.length+1=(acc++[c]).length:=by simp
 have hl2:acc.map (Value.int .i32)++[.int .i32 c]=(acc++[c]).map (Value.int .i32):=by simp
 rw[hl1,hl2]at hown;have hN:=HR1.out.push (acc':=acc++[c]) ((Keeps.refl _ _).alloc (fun b hb=>hb) _) hown hgr;obtain⟨A',cp',rfl⟩:=ownB_form hown;have hlen:(acc++[c]).length≤pos+d:=by simp;omega
 have hex2:(acc++[c])++runesF s s.size (pos+d)=runesS s:=by rw[←Hex.out];simp
 generalize acc++[c]=acc2 at hN hlen hl1 hl2 hex2 ⊢;have hit2:=hN.it;clear hown hgr hf hl1 hl2;have HN:=hid hN;have Hex2:=hid hex2;clear hN hex2
 go_wp2_with fail
 go_roundw
 case rel=>exact⟨pos+d,acc2,A',cp',rfl,hlen,by omega,hit2,HN,Hex2⟩
 case measure=>simp[World.iterPos,hit2,hit];omega):p:=h
theorem c301 {p:Prop}(h:p:=by
 have hes:=enc_size c;rw[fitL_cons]at hex
 by_cases hbig:(encB c).length+acc.length>n
 ·have hbigI:((encB c).length:Int)>(n:Int)-(acc.length:Int):=by omega
  rw[if_pos hbig]at hex;have hfs:fitS n (runesS s)=⟨acc.toArray⟩:=by unfold fitS;rw[←hex]
  have hcv:=hR1.newB.conv (P:=Tryz.prog) Tryz.underlying186 Tryz.underlying5 Tryz.underlying9
  have Hex:=hid hex;have HR1:=hid hR1;have Hfs:=hid hfs;clear hex hR1 hfs;clear HE HR hbig
  go_wp2_with fail
  exact hR'.out _ _ ⟨by rw[Hfs.out];rfl,HR1.out.keeps⟩
 ·have hbigI:¬((encB c).length:Int)>(n:Int)-(acc.length:Int):=by omega
  rw[if_neg hbig]at hex;have hN1:=hR1.newB;have he4:=encB_four c;have Hex:=hid hex;have HR1:=hid hR1;have HN1:=hid hN1;clear hex hR1 hN1;clear HE HR;obtain⟨i0,hi,hz0,hz1,hz2⟩:=info_partsF Tryz.infoU8
  go_wp2_with (at_builtin;refine Lib.wpList_append_own_string _ rfl _ _ 186 9 rfl (w.heap.size+1) 5 i0 Tryz.underlying186 Tryz.underlying9 hi hz0 hz1 hz2 (.slice A acc.length cp) acc.length (acc.map u8v) rfl (by have:=HR1.out.own;rw[u8i_map,u8i_len]at this;exact this) (Utf8.encode c) rfl ?_ ?_ ?_ ?_)
  all_goals(try(first|(unfold maxLen;omega)|omega))
  intro v' w6 hown hgr _;have hl2:acc.length+(encB c).length=(u8i (acc++encB c)).length:=by rw[u8i_len,List.length_append]
  have hl3:acc.map u8v++Lib.strCells (Utf8.encode c)=(u8i (acc++encB c)).map (Value.int .u8):=by rw[u8i_map,List.map_append];rfl
  rw[hl2,hl3]at hown;have hN:=HR1.out.push (acc':=u8i (acc++encB c)) (Keeps.refl _ _) hown hgr;obtain⟨A',cp',rfl⟩:=ownB_form hown;rw[u8i_len]at hN;have hle:(acc++encB c).length≤n:=by rw[List.length_append];omega
  have hit2:=hN.it;have HN:=hid hN;clear hN;clear hown hgr hi hz0 hz1 hz2 hl2 hl3
  go_wp2_with fail
  go_roundw
  case rel=>exact⟨pos+d,acc++encB c,A',cp',by rw[u8i_len],hle,by omega,hit2,HN,Hex⟩
  case measure=>simp[World.iterPos,hit2,hit];omega):p:=h
theorem c302 {p:Prop}(h:p:=by
 have hp:0≤pos∧pos≤65535:=by omega
 have hw:wordOf d pos=65536*d+pos:=by unfold wordOf;rw[if_neg hh]
 rw[hw];refine calls_hide fun R' hR'=>?_;have g1:decide (d<0)=false:=decide_eq_false (by omega)
 have g2:decide (65535<d)=false:=decide_eq_false (by omega)
 have g3:decide (pos<0)=false:=decide_eq_false (by omega)
 have g4:decide (65535<pos)=false:=decide_eq_false (by omega)
 exact zz47):p:=h
theorem c303 {p:Prop}(h:p:=by
 go_enter Tryz.func82,Tryz.ntmps82
 go_wp2_with fail
 rw[bits_word d pos hd hp];exact hR'.out _ _ ⟨⟨_,rfl⟩,rfl⟩):p:=h
theorem c304 {p:Prop}(h:p:=by
 have w1:IntKind.i64.wrap (65536*d)=65536*d:=IntWalk.i64_in _ (by omega)
 have w2:IntKind.i64.wrap (65536*d+pos)=65536*d+pos:=IntWalk.i64_in _ (by omega)
 have w3:IntKind.u32.wrap (65536*d+pos)=65536*d+pos:=IntWalk.u32_in _ (by omega)
 exact c457):p:=h
theorem c305 {p:Prop}(h:p:=by
 have hR6:=(hal.mono (K':=fun b=>K b∨(Value.slice A' out.length cp').ownBlock=some b) (fun b hb=>Or.inl hb)).append hgr (hfr.imp (fun h=>h) fun⟨b,h1,h2⟩=>⟨b,h1,by simpa using h2⟩) (fun b hb=>(hown'.lt b hb).2)
 have hK6:Keeps K w w6:=(HK4.out.alloc (fun b hb=>Nat.lt_of_lt_of_le (Hlt.out b hb) HK4.out.size) _).trans (keeps_append (fun b hb=>hal.lt b (Or.inl (Or.inl hb))) HO4.out.2 hgr);exact zz48):p:=h
theorem c306 {p:Prop}(h:p:=by
 have hO6:TermOwn w6 K (.slice A9 (out.length+1) cp9) (out++[⟨key,0,0,1⟩]):=by
  exact c88
 have hC6:∀t'∈out++[(⟨key,0,0,1⟩:TermM)],0≤t'.cnt∧t'.cnt≤(i+1:Nat):=fun t' ht'=>by
  exact c142
 have hll:(out++[(⟨key,0,0,1⟩:TermM)]).length=out.length+1:=by simp
 rw[←hll]at hO6 hR6;generalize out++[(⟨key,0,0,1⟩:TermM)]=out2 at*;exact c78):p:=h
theorem c307 {p:Prop}(h:p:=by
 have hO6:TermOwn w6 K (.slice A9 (out.length+1) cp9) (out++[⟨key,rc,tl,1⟩]):=by
  exact c88
 have hC6:∀t'∈out++[(⟨key,rc,tl,1⟩:TermM)],0≤t'.cnt∧t'.cnt≤(i+1:Nat):=fun t' ht'=>by
  exact c142
 have hll:(out++[(⟨key,rc,tl,1⟩:TermM)]).length=out.length+1:=by simp
 rw[←hll]at hO6 hR6;generalize out++[(⟨key,rc,tl,1⟩:TermM)]=out2 at*;exact c78):p:=h
theorem c308 {p:Prop}(h:p:=by
 obtain⟨⟨b0,b1,b2,b3,b4,b5⟩,⟨s0,s1,s2,s3,s4,s5⟩,pc,ps,pl⟩:=p;obtain⟨u0,u1,u2,u3,u4,u5⟩:=u;simp only at h0 h2 h3 hu;have zz121:=@c610;exact c603):p:=h
theorem c309 {p:Prop}(h:p:=by
 have hw1:IntKind.i64.wrap (s4-u4)=s4-u4:=IntWalk.i64_in _ (by omega)
 have hd2:decide (s4-u4<n)=true:=by simp;omega
 exact c55):p:=h
theorem c310 {p:Prop}(h:p:=by
 have hw1:IntKind.i64.wrap (s0-u0)=s0-u0:=IntWalk.i64_in _ (by omega)
 have hd2:decide (s0-u0<n)=true:=by simp;omega
 exact c55):p:=h
theorem c311 {p:Prop}(h:p:=by
 have hw1:IntKind.i64.wrap (s1-u1)=s1-u1:=IntWalk.i64_in _ (by omega)
 have hd2:decide (s1-u1<n)=true:=by simp;omega
 exact c55):p:=h
theorem c312 {p:Prop}(h:p:=by
 have hw1:IntKind.i64.wrap (s2-u2)=s2-u2:=IntWalk.i64_in _ (by omega)
 have hd2:decide (s2-u2<n)=true:=by simp;omega
 exact c55):p:=h
theorem c313 {p:Prop}(h:p:=by
 have hw1:IntKind.i64.wrap (s3-u3)=s3-u3:=IntWalk.i64_in _ (by omega)
 have hd2:decide (s3-u3<n)=true:=by simp;omega
 exact c55):p:=h
theorem c314 {p:Prop}(h:p:=by
 clear Hadd Hdel Hway HX;have hz9:=hZ;have hl1:=hZ.lt;have hl0:=hO.lt;have hXw:X<W1.heap.size:=by have:=hk.size;omega
 have y0:=(hX1.cell 35);have y1:=(hX1.cell 36);have y2:=(hX1.cell 37);have y3:=(hX1.cell 38);have y4:=(hX1.cell 39);have y5:=(hX1.cell 40);have y6:=(hX1.cell 41);have y7:=(hX1.cell 42);have y8:=(hX1.cell 43);have y9:=(hX1.cell 44);exact zz50):p:=h
theorem c315 {p:Prop}(h:p:=by
 simp only[List.getElem?_cons_zero,List.getElem?_cons_succ]at y0 y1 y2 y3 y4 y5 y6 y7 y8 y9;have b1:=hO.cell 1;have b2:=hO.cell 2;simp only[List.getElem?_cons_zero,List.getElem?_cons_succ]at b1 b2;have hz8:=hZ;unfold st0 at hz8;obtain⟨z0,z1,z2,z3,z4,z5,z6,z7,z8,z9⟩:=hz8.c10;clear hz8;have HSS:=hid (show∀w':World,Keeps (· <W1.heap.size) W1 w'→(w'.cell? ⟨X,35,none⟩=some (.slice CA cn cc)∧w'.cell? ⟨X,36,none⟩=some (.slice TA tn tc)∧w'.cell? ⟨X,37,none⟩=some (I wt)∧w'.cell? ⟨X,38,none⟩=some (J wv)∧w'.cell? ⟨X,39,none⟩=some (I u0)∧w'.cell? ⟨X,40,none⟩=some (I u1)∧w'.cell? ⟨X,41,none⟩=some (I u2)∧w'.cell? ⟨X,42,none⟩=some (I u3)∧w'.cell? ⟨X,43,none⟩=some (I u4)∧w'.cell? ⟨X,44,none⟩=some (I u5)∧w'.cell? ⟨B,1,none⟩=some (J id))∧(w'.cell? ⟨B+1,0,none⟩=some (.slice none 0 0)∧w'.cell? ⟨B+1,1,none⟩=some (.slice none 0 0)∧w'.cell? ⟨B+1,2,none⟩=some (I 0)∧w'.cell? ⟨B+1,3,none⟩=some (J 0)∧w'.cell? ⟨B+1,4,none⟩=some (I 0)∧w'.cell? ⟨B+1,5,none⟩=some (I 0)∧w'.cell? ⟨B+1,6,none⟩=some (I 0)∧w'.cell? ⟨B+1,7,none⟩=some (I 0)∧w'.cell? ⟨B+1,8,none⟩=some (I 0)∧w'.cell? ⟨B+1,9,none⟩=some (I 0))∧(w'.frozen? ⟨B+1,0,none⟩=false∧w'.frozen? ⟨B+1,1,none⟩=false∧w'.frozen? ⟨B+1,2,none⟩=false∧w'.frozen? ⟨B+1,3,none⟩=false∧w'.frozen? ⟨B+1,4,none⟩=false∧w'.frozen? ⟨B+1,5,none⟩=false∧w'.frozen? ⟨B+1,6,none⟩=false∧w'.frozen? ⟨B+1,7,none⟩=false∧w'.frozen? ⟨B+1,8,none⟩=false∧w'.frozen? ⟨B+1,9,none⟩=false)from by
  intro w' k;have e0:=fun i=>World.cell?_of_block (a:=⟨X,i,none⟩) (k.block X hXw);have e1:=fun i=>World.cell?_of_block (a:=⟨B,i,none⟩) (k.block B hl0);have e2:=fun i=>World.cell?_of_block (a:=⟨B+1,i,none⟩) (k.block (B+1) hl1);exact⟨⟨(e0 _).trans y0,(e0 _).trans y1,(e0 _).trans y2,(e0 _).trans y3,(e0 _).trans y4,(e0 _).trans y5,(e0 _).trans y6,(e0 _).trans y7,(e0 _).trans y8,(e0 _).trans y9,(e1 _).trans b1⟩,⟨(e2 _).trans z0,(e2 _).trans z1,(e2 _).trans z2,(e2 _).trans z3,(e2 _).trans z4,(e2 _).trans z5,(e2 _).trans z6,(e2 _).trans z7,(e2 _).trans z8,(e2 _).trans z9⟩,(hz9.keep k hl1).free 0,(hz9.keep k hl1).free 1,(hz9.keep k hl1).free 2,(hz9.keep k hl1).free 3,(hz9.keep k hl1).free 4,(hz9.keep k hl1).free 5,(hz9.keep k hl1).free 6,(hz9.keep k hl1).free 7,(hz9.keep k hl1).free 8,(hz9.keep k hl1).free 9⟩)
 have HTB:=hid (show∀wa,Keeps (· <W1.heap.size) W1 wa→Calls Tryz.prog 37 #[.agg #[.slice CA cn cc,.slice TA tn tc,I wt,J wv,I u0,I u1,I u2,I u3,I u4,I u5],J id] wa fun e w'=>∃A3 c3 A4 c4,e= .returned (.tuple #[I er,.agg #[.slice A3 cs'.length c3,.slice A4 segs'.length c4,I t',J v',I x0,I x1,I x2,I x3,I x4,I x5]])∧Hid (SlAt w' (fun b=>K b∨(B≤b∧b<w'.heap.size∧b≠B∧b≠B+1)) 1 (.slice A3 cs'.length c3) cs'.length (cs'.map (Value.int .u32))∧SlAt w' (fun b=>K b∨(B≤b∧b<w'.heap.size∧b≠B∧b≠B+1)) 3 (.slice A4 segs'.length c4) segs'.length (segs'.flatMap SegM.cells)∧Keeps (· <W1.heap.size) W1 w')∧((w'.cell? ⟨X,35,none⟩=some (.slice CA cn cc)∧w'.cell? ⟨X,36,none⟩=some (.slice TA tn tc)∧w'.cell? ⟨X,37,none⟩=some (I wt)∧w'.cell? ⟨X,38,none⟩=some (J wv)∧w'.cell? ⟨X,39,none⟩=some (I u0)∧w'.cell? ⟨X,40,none⟩=some (I u1)∧w'.cell? ⟨X,41,none⟩=some (I u2)∧w'.cell? ⟨X,42,none⟩=some (I u3)∧w'.cell? ⟨X,43,none⟩=some (I u4)∧w'.cell? ⟨X,44,none⟩=some (I u5)∧w'.cell? ⟨B,1,none⟩=some (J id))∧(w'.cell? ⟨B+1,0,none⟩=some (.slice none 0 0)∧w'.cell? ⟨B+1,1,none⟩=some (.slice none 0 0)∧w'.cell? ⟨B+1,2,none⟩=some (I 0)∧w'.cell? ⟨B+1,3,none⟩=some (J 0)∧w'.cell? ⟨B+1,4,none⟩=some (I 0)∧w'.cell? ⟨B+1,5,none⟩=some (I 0)∧w'.cell? ⟨B+1,6,none⟩=some (I 0)∧w'.cell? ⟨B+1,7,none⟩=some (I 0)∧w'.cell? ⟨B+1,8,none⟩=some (I 0)∧w'.cell? ⟨B+1,9,none⟩=some (I 0))∧(w'.frozen? ⟨B+1,0,none⟩=false∧w'.frozen? ⟨B+1,1,none⟩=false∧w'.frozen? ⟨B+1,2,none⟩=false∧w'.frozen? ⟨B+1,3,none⟩=false∧w'.frozen? ⟨B+1,4,none⟩=false∧w'.frozen? ⟨B+1,5,none⟩=false∧w'.frozen? ⟨B+1,6,none⟩=false∧w'.frozen? ⟨B+1,7,none⟩=false∧w'.frozen? ⟨B+1,8,none⟩=false∧w'.frozen? ⟨B+1,9,none⟩=false))from fun wa h1=>by
  refine(HREF.out wa h1).mono ?_;rintro e w' ⟨cv,sv,rfl,g1,g2,g3⟩;have hk9:=h1.trans (g3.mono fun b hb=>by have:=h1.size;omega)
  have hge9:=h1.size;have hg9:∀b,(K b∨(wa.heap.size≤b∧b<w'.heap.size))→(K b∨(B≤b∧b<w'.heap.size∧b≠B∧b≠B+1)):=fun b hb=>hb.imp (fun h=>h) fun h=>⟨by omega,h.2,by omega,by omega⟩
  have g1:=g1.mono hg9;have g2:=g2.mono hg9;have g1':=g1;have g2':=g2;obtain⟨A3,c3,rfl,_⟩:=g1';obtain⟨A4,c4,rfl,_⟩:=g2';exact⟨A3,c3,A4,c4,rfl,⟨g1,g2,hk9⟩,HSS.out _ hk9⟩)
 have hXB:¬X=B+1:=by omega
 have hXB2:¬B+1=X:=by omega
 clear z0 z1 z2 z3 z4 z5 z6 z7 z8 z9;have HX1:=hid hX1;have HO:=hid hO;have HZ:=hid hZ;have Hk:=hid hk;clear hX1 hO hZ hk;clear hz9
 go_upto_region 2 with fail
 go_cut[4]from 8 to 17 (fun a wx=>∃A3 c3 A4 c4,a=I er∧Blk wx (B+1) [.slice A3 cs'.length c3,.slice A4 segs'.length c4,I t',J v',I x0,I x1,I x2,I x3,I x4,I x5]∧SlAt wx (fun b=>K b∨(B≤b∧b<wx.heap.size∧b≠B∧b≠B+1)) 1 (.slice A3 cs'.length c3) cs'.length (cs'.map (Value.int .u32))∧SlAt wx (fun b=>K b∨(B≤b∧b<wx.heap.size∧b≠B∧b≠B+1)) 3 (.slice A4 segs'.length c4) segs'.length (segs'.flatMap SegM.cells)∧Keeps (· <B) w wx)
 case first=>
  go_region_held3 (fun w'=>w'.cell? ⟨X,35,none⟩=some (.slice CA cn cc)∧w'.cell? ⟨X,36,none⟩=some (.slice TA tn tc)∧w'.cell? ⟨X,37,none⟩=some (I wt)∧w'.cell? ⟨X,38,none⟩=some (J wv)∧w'.cell? ⟨X,39,none⟩=some (I u0)∧w'.cell? ⟨X,40,none⟩=some (I u1)∧w'.cell? ⟨X,41,none⟩=some (I u2)∧w'.cell? ⟨X,42,none⟩=some (I u3)∧w'.cell? ⟨X,43,none⟩=some (I u4)∧w'.cell? ⟨X,44,none⟩=some (I u5)∧w'.cell? ⟨B,1,none⟩=some (J id)) (go_keep)
   (first|(go_at_call 37;refine(HTB.out _ ?_).mono ?_;(focus((repeat(first|with_reducible exact Keeps.refl _ _|with_reducible refine Keeps.drew ?_|with_reducible refine Keeps.drewN ?_ _|with_reducible refine Keeps.alloc ?_ ?_ _));all_goals(intro b hb;exact hb)));rintro e wb ⟨A3,c3,A4,c4,rfl,HBW,⟨q0,q1,q2,q3,q4,q5,q6,q7,q8,q9,q10⟩,⟨z0,z1,z2,z3,z4,z5,z6,z7,z8,z9⟩,⟨r0,r1,r2,r3,r4,r5,r6,r7,r8,r9⟩⟩))
  all_goals
   go_wp2_with fail
   go_meet
   case rel=>
    exact c34
 case rest=>
  obtain⟨A3,c3,A4,c4,rfl,hE,g1,g2,hk9⟩:=hcut;obtain⟨d0,d1,d2,d3,d4,d5,d6,d7,d8,d9⟩:=hE.c10;clear hE HX1 HO HZ Hk HSS HTB HREF;have HG1:=hid g1;have HG2:=hid g2;have HK9:=hid hk9;clear g1 g2 hk9
  iterate 3 (first|go_values|go_skip|go_guarded|go_step|go_upon|go_back)
  exact c77):p:=h
theorem c316 {p:Prop}(h:p:=by
 have k0:=(hX1.cell 0);have k1:=(hX1.cell 1);have k2:=(hX1.cell 2);have k3:=(hX1.cell 3);have k4:=(hX1.cell 4);have k5:=(hX1.cell 5);have k6:=(hX1.cell 6);have k7:=(hX1.cell 7);have k8:=(hX1.cell 8);have k9:=(hX1.cell 9);have p0:=(hX1.cell 10);have p1:=(hX1.cell 11);have p2:=(hX1.cell 12);have p3:=(hX1.cell 13);have p4:=(hX1.cell 14);have p5:=(hX1.cell 15);have p6:=(hX1.cell 16)
 have p7:=(hX1.cell 17);have p8:=(hX1.cell 18);have p9:=(hX1.cell 19);have p10:=(hX1.cell 20);have p11:=(hX1.cell 21);have p12:=(hX1.cell 22);have p13:=(hX1.cell 23);have p14:=(hX1.cell 24);simp only[List.getElem?_cons_zero,List.getElem?_cons_succ]at y0 y1 y2 y3 y4 y5 y6 y7 y8 y9 k0 k1 k2 k3 k4 k5 k6 k7 k8 k9 p0 p1 p2 p3 p4 p5 p6 p7 p8 p9 p10 p11 p12 p13 p14;have b1:=hO.cell 1
 have b2:=hO.cell 2;simp only[List.getElem?_cons_zero,List.getElem?_cons_succ]at b1 b2;have hz8:=hZ;unfold st0 at hz8;obtain⟨z0,z1,z2,z3,z4,z5,z6,z7,z8,z9⟩:=hz8.c10;clear hz8;have HSS:=hid (show∀w':World,Keeps (· <W1.heap.size) W1 w'→(w'.cell? ⟨X,35,none⟩=some (.slice CA cn cc)∧w'.cell? ⟨X,36,none⟩=some (.slice TA tn tc)∧w'.cell? ⟨X,37,none⟩=some (I wt)∧w'.cell? ⟨X,38,none⟩=some (J wv)∧w'.cell? ⟨X,39,none⟩=some (I u0)∧w'.cell? ⟨X,40,none⟩=some (I u1)∧w'.cell? ⟨X,41,none⟩=some (I u2)∧w'.cell? ⟨X,42,none⟩=some (I u3)∧w'.cell? ⟨X,43,none⟩=some (I u4)∧w'.cell? ⟨X,44,none⟩=some (I u5)∧w'.cell? ⟨X,0,none⟩=some (I docs)∧w'.cell? ⟨X,1,none⟩=some (I terms)∧w'.cell? ⟨X,2,none⟩=some (I q0)∧w'.cell? ⟨X,3,none⟩=some (I q1)∧w'.cell? ⟨X,4,none⟩=some (I q2)∧w'.cell? ⟨X,5,none⟩=some (I q3)∧w'.cell? ⟨X,6,none⟩=some (I book)∧w'.cell? ⟨X,7,none⟩=some (I room)∧w'.cell? ⟨X,8,none⟩=some (kk)∧w'.cell? ⟨X,9,none⟩=some (bb)∧w'.cell? ⟨X,10,none⟩=some (I p.base.a0)∧w'.cell? ⟨X,11,none⟩=some (I p.base.a1)∧w'.cell? ⟨X,12,none⟩=some (I p.base.a2)∧w'.cell? ⟨X,13,none⟩=some (I p.base.a3)∧w'.cell? ⟨X,14,none⟩=some (I p.base.a4)∧w'.cell? ⟨X,15,none⟩=some (I p.base.a5)∧w'.cell? ⟨X,16,none⟩=some (I p.size.a0)∧w'.cell? ⟨X,17,none⟩=some (I p.size.a1)∧w'.cell? ⟨X,18,none⟩=some (I p.size.a2)∧w'.cell? ⟨X,19,none⟩=some (I p.size.a3)∧w'.cell? ⟨X,20,none⟩=some (I p.size.a4)∧w'.cell? ⟨X,21,none⟩=some (I p.size.a5)∧w'.cell? ⟨X,22,none⟩=some (I p.cells)∧w'.cell? ⟨X,23,none⟩=some (I p.slots)∧w'.cell? ⟨X,24,none⟩=some (I p.live)∧w'.cell? ⟨B,1,none⟩=some (J id)∧w'.cell? ⟨B,2,none⟩=some (.slice FA fn fc))∧(w'.cell? ⟨B+1,0,none⟩=some (.slice none 0 0)∧w'.cell? ⟨B+1,1,none⟩=some (.slice none 0 0)∧w'.cell? ⟨B+1,2,none⟩=some (I 0)∧w'.cell? ⟨B+1,3,none⟩=some (J 0)∧w'.cell? ⟨B+1,4,none⟩=some (I 0)∧w'.cell? ⟨B+1,5,none⟩=some (I 0)∧w'.cell? ⟨B+1,6,none⟩=some (I 0)∧w'.cell? ⟨B+1,7,none⟩=some (I 0)∧w'.cell? ⟨B+1,8,none⟩=some (I 0)∧w'.cell? ⟨B+1,9,none⟩=some (I 0))∧(w'.frozen? ⟨B+1,0,none⟩=false∧w'.frozen? ⟨B+1,1,none⟩=false∧w'.frozen? ⟨B+1,2,none⟩=false∧w'.frozen? ⟨B+1,3,none⟩=false∧w'.frozen? ⟨B+1,4,none⟩=false∧w'.frozen? ⟨B+1,5,none⟩=false∧w'.frozen? ⟨B+1,6,none⟩=false∧w'.frozen? ⟨B+1,7,none⟩=false∧w'.frozen? ⟨B+1,8,none⟩=false∧w'.frozen? ⟨B+1,9,none⟩=false)from by
  intro w' k;have e0:=fun i=>World.cell?_of_block (a:=⟨X,i,none⟩) (k.block X hXw);have e1:=fun i=>World.cell?_of_block (a:=⟨B,i,none⟩) (k.block B hl0);have e2:=fun i=>World.cell?_of_block (a:=⟨B+1,i,none⟩) (k.block (B+1) hl1);exact⟨⟨(e0 _).trans y0,(e0 _).trans y1,(e0 _).trans y2,(e0 _).trans y3,(e0 _).trans y4,(e0 _).trans y5,(e0 _).trans y6,(e0 _).trans y7,(e0 _).trans y8,(e0 _).trans y9,(e0 _).trans k0,(e0 _).trans k1,(e0 _).trans k2,(e0 _).trans k3,(e0 _).trans k4,(e0 _).trans k5,(e0 _).trans k6,(e0 _).trans k7,(e0 _).trans k8,(e0 _).trans k9,(e0 _).trans p0,(e0 _).trans p1,(e0 _).trans p2,(e0 _).trans p3,(e0 _).trans p4,(e0 _).trans p5,(e0 _).trans p6,(e0 _).trans p7,(e0 _).trans p8,(e0 _).trans p9,(e0 _).trans p10,(e0 _).trans p11,(e0 _).trans p12,(e0 _).trans p13,(e0 _).trans p14,(e1 _).trans b1,(e1 _).trans b2⟩,⟨(e2 _).trans z0,(e2 _).trans z1,(e2 _).trans z2,(e2 _).trans z3,(e2 _).trans z4,(e2 _).trans z5,(e2 _).trans z6,(e2 _).trans z7,(e2 _).trans z8,(e2 _).trans z9⟩,(hz9.keep k hl1).free 0,(hz9.keep k hl1).free 1,(hz9.keep k hl1).free 2,(hz9.keep k hl1).free 3,(hz9.keep k hl1).free 4,(hz9.keep k hl1).free 5,(hz9.keep k hl1).free 6,(hz9.keep k hl1).free 7,(hz9.keep k hl1).free 8,(hz9.keep k hl1).free 9⟩)
 have HTB:=hid (show∀wa,Keeps (· <W1.heap.size) W1 wa→Calls Tryz.prog 38 #[.agg #[.slice CA cn cc,.slice TA tn tc,I wt,J wv,I u0,I u1,I u2,I u3,I u4,I u5],.agg #[I docs,I terms,I q0,I q1,I q2,I q3,I book,I room,kk,bb],.agg #[I p.base.a0,I p.base.a1,I p.base.a2,I p.base.a3,I p.base.a4,I p.base.a5,I p.size.a0,I p.size.a1,I p.size.a2,I p.size.a3,I p.size.a4,I p.size.a5,I p.cells,I p.slots,I p.live],.agg #[J id,.slice FA fn fc]] wa fun e w'=>∃A3 c3 A4 c4,e= .returned (.tuple #[I er,.agg #[.slice A3 cs'.length c3,.slice A4 segs'.length c4,I t',J v',I x0,I x1,I x2,I x3,I x4,I x5]])∧Hid (SlAt w' (fun b=>K b∨(B≤b∧b<w'.heap.size∧b≠B∧b≠B+1)) 1 (.slice A3 cs'.length c3) cs'.length (cs'.map (Value.int .u32))∧SlAt w' (fun b=>K b∨(B≤b∧b<w'.heap.size∧b≠B∧b≠B+1)) 3 (.slice A4 segs'.length c4) segs'.length (segs'.flatMap SegM.cells)∧Keeps (· <W1.heap.size) W1 w')∧((w'.cell? ⟨X,35,none⟩=some (.slice CA cn cc)∧w'.cell? ⟨X,36,none⟩=some (.slice TA tn tc)∧w'.cell? ⟨X,37,none⟩=some (I wt)∧w'.cell? ⟨X,38,none⟩=some (J wv)∧w'.cell? ⟨X,39,none⟩=some (I u0)∧w'.cell? ⟨X,40,none⟩=some (I u1)∧w'.cell? ⟨X,41,none⟩=some (I u2)∧w'.cell? ⟨X,42,none⟩=some (I u3)∧w'.cell? ⟨X,43,none⟩=some (I u4)∧w'.cell? ⟨X,44,none⟩=some (I u5)∧w'.cell? ⟨X,0,none⟩=some (I docs)∧w'.cell? ⟨X,1,none⟩=some (I terms)∧w'.cell? ⟨X,2,none⟩=some (I q0)∧w'.cell? ⟨X,3,none⟩=some (I q1)∧w'.cell? ⟨X,4,none⟩=some (I q2)∧w'.cell? ⟨X,5,none⟩=some (I q3)∧w'.cell? ⟨X,6,none⟩=some (I book)∧w'.cell? ⟨X,7,none⟩=some (I room)∧w'.cell? ⟨X,8,none⟩=some (kk)∧w'.cell? ⟨X,9,none⟩=some (bb)∧w'.cell? ⟨X,10,none⟩=some (I p.base.a0)∧w'.cell? ⟨X,11,none⟩=some (I p.base.a1)∧w'.cell? ⟨X,12,none⟩=some (I p.base.a2)∧w'.cell? ⟨X,13,none⟩=some (I p.base.a3)∧w'.cell? ⟨X,14,none⟩=some (I p.base.a4)∧w'.cell? ⟨X,15,none⟩=some (I p.base.a5)∧w'.cell? ⟨X,16,none⟩=some (I p.size.a0)∧w'.cell? ⟨X,17,none⟩=some (I p.size.a1)∧w'.cell? ⟨X,18,none⟩=some (I p.size.a2)∧w'.cell? ⟨X,19,none⟩=some (I p.size.a3)∧w'.cell? ⟨X,20,none⟩=some (I p.size.a4)∧w'.cell? ⟨X,21,none⟩=some (I p.size.a5)∧w'.cell? ⟨X,22,none⟩=some (I p.cells)∧w'.cell? ⟨X,23,none⟩=some (I p.slots)∧w'.cell? ⟨X,24,none⟩=some (I p.live)∧w'.cell? ⟨B,1,none⟩=some (J id)∧w'.cell? ⟨B,2,none⟩=some (.slice FA fn fc))∧(w'.cell? ⟨B+1,0,none⟩=some (.slice none 0 0)∧w'.cell? ⟨B+1,1,none⟩=some (.slice none 0 0)∧w'.cell? ⟨B+1,2,none⟩=some (I 0)∧w'.cell? ⟨B+1,3,none⟩=some (J 0)∧w'.cell? ⟨B+1,4,none⟩=some (I 0)∧w'.cell? ⟨B+1,5,none⟩=some (I 0)∧w'.cell? ⟨B+1,6,none⟩=some (I 0)∧w'.cell? ⟨B+1,7,none⟩=some (I 0)∧w'.cell? ⟨B+1,8,none⟩=some (I 0)∧w'.cell? ⟨B+1,9,none⟩=some (I 0))∧(w'.frozen? ⟨B+1,0,none⟩=false∧w'.frozen? ⟨B+1,1,none⟩=false∧w'.frozen? ⟨B+1,2,none⟩=false∧w'.frozen? ⟨B+1,3,none⟩=false∧w'.frozen? ⟨B+1,4,none⟩=false∧w'.frozen? ⟨B+1,5,none⟩=false∧w'.frozen? ⟨B+1,6,none⟩=false∧w'.frozen? ⟨B+1,7,none⟩=false∧w'.frozen? ⟨B+1,8,none⟩=false∧w'.frozen? ⟨B+1,9,none⟩=false))from fun wa h1=>by
  refine(HREF.out wa h1).mono ?_;rintro e w' ⟨cv,sv,rfl,g1,g2,g3⟩;have hk9:=h1.trans (g3.mono fun b hb=>by have:=h1.size;omega)
  have hge9:=h1.size;have hg9:∀b,(K b∨(wa.heap.size≤b∧b<w'.heap.size))→(K b∨(B≤b∧b<w'.heap.size∧b≠B∧b≠B+1)):=fun b hb=>hb.imp (fun h=>h) fun h=>⟨by omega,h.2,by omega,by omega⟩
  have g1:=g1.mono hg9;have g2:=g2.mono hg9;have g1':=g1;have g2':=g2;obtain⟨A3,c3,rfl,_⟩:=g1';obtain⟨A4,c4,rfl,_⟩:=g2';exact⟨A3,c3,A4,c4,rfl,⟨g1,g2,hk9⟩,HSS.out _ hk9⟩)
 have hXB:¬X=B+1:=by omega
 have hXB2:¬B+1=X:=by omega
 clear z0 z1 z2 z3 z4 z5 z6 z7 z8 z9;have HX1:=hid hX1;have HO:=hid hO;have HZ:=hid hZ;have Hk:=hid hk;clear hX1 hO hZ hk;clear hz9
 go_upto_region 3 with fail
 go_cut[4]from 18 to 34 (fun a wx=>∃A3 c3 A4 c4,a=I er∧Blk wx (B+1) [.slice A3 cs'.length c3,.slice A4 segs'.length c4,I t',J v',I x0,I x1,I x2,I x3,I x4,I x5]∧SlAt wx (fun b=>K b∨(B≤b∧b<wx.heap.size∧b≠B∧b≠B+1)) 1 (.slice A3 cs'.length c3) cs'.length (cs'.map (Value.int .u32))∧SlAt wx (fun b=>K b∨(B≤b∧b<wx.heap.size∧b≠B∧b≠B+1)) 3 (.slice A4 segs'.length c4) segs'.length (segs'.flatMap SegM.cells)∧Keeps (· <B) w wx)
 case first=>
  go_region_held3 (fun w'=>w'.cell? ⟨X,35,none⟩=some (.slice CA cn cc)∧w'.cell? ⟨X,36,none⟩=some (.slice TA tn tc)∧w'.cell? ⟨X,37,none⟩=some (I wt)∧w'.cell? ⟨X,38,none⟩=some (J wv)∧w'.cell? ⟨X,39,none⟩=some (I u0)∧w'.cell? ⟨X,40,none⟩=some (I u1)∧w'.cell? ⟨X,41,none⟩=some (I u2)∧w'.cell? ⟨X,42,none⟩=some (I u3)∧w'.cell? ⟨X,43,none⟩=some (I u4)∧w'.cell? ⟨X,44,none⟩=some (I u5)∧w'.cell? ⟨X,0,none⟩=some (I docs)∧w'.cell? ⟨X,1,none⟩=some (I terms)∧w'.cell? ⟨X,2,none⟩=some (I q0)∧w'.cell? ⟨X,3,none⟩=some (I q1)∧w'.cell? ⟨X,4,none⟩=some (I q2)∧w'.cell? ⟨X,5,none⟩=some (I q3)∧w'.cell? ⟨X,6,none⟩=some (I book)∧w'.cell? ⟨X,7,none⟩=some (I room)∧w'.cell? ⟨X,8,none⟩=some (kk)∧w'.cell? ⟨X,9,none⟩=some (bb)∧w'.cell? ⟨X,10,none⟩=some (I p.base.a0)∧w'.cell? ⟨X,11,none⟩=some (I p.base.a1)∧w'.cell? ⟨X,12,none⟩=some (I p.base.a2)∧w'.cell? ⟨X,13,none⟩=some (I p.base.a3)∧w'.cell? ⟨X,14,none⟩=some (I p.base.a4)∧w'.cell? ⟨X,15,none⟩=some (I p.base.a5)∧w'.cell? ⟨X,16,none⟩=some (I p.size.a0)∧w'.cell? ⟨X,17,none⟩=some (I p.size.a1)∧w'.cell? ⟨X,18,none⟩=some (I p.size.a2)∧w'.cell? ⟨X,19,none⟩=some (I p.size.a3)∧w'.cell? ⟨X,20,none⟩=some (I p.size.a4)∧w'.cell? ⟨X,21,none⟩=some (I p.size.a5)∧w'.cell? ⟨X,22,none⟩=some (I p.cells)∧w'.cell? ⟨X,23,none⟩=some (I p.slots)∧w'.cell? ⟨X,24,none⟩=some (I p.live)∧w'.cell? ⟨B,1,none⟩=some (J id)∧w'.cell? ⟨B,2,none⟩=some (.slice FA fn fc)) (go_keep)
   (first|(go_at_call 38;refine(HTB.out _ ?_).mono ?_;(focus((repeat(first|with_reducible exact Keeps.refl _ _|with_reducible refine Keeps.drew ?_|with_reducible refine Keeps.drewN ?_ _|with_reducible refine Keeps.alloc ?_ ?_ _));all_goals(intro b hb;exact hb)));rintro e wb ⟨A3,c3,A4,c4,rfl,HBW,⟨q0,q1,q2,q3,q4,q5,q6,q7,q8,q9,q10,q11,q12,q13,q14,q15,q16,q17,q18,q19,q20,q21,q22,q23,q24,q25,q26,q27,q28,q29,q30,q31,q32,q33,q34,q35,q36⟩,⟨z0,z1,z2,z3,z4,z5,z6,z7,z8,z9⟩,⟨r0,r1,r2,r3,r4,r5,r6,r7,r8,r9⟩⟩))
  all_goals
   go_wp2_with fail
   go_meet
   case rel=>
    exact c34
 case rest=>
  obtain⟨A3,c3,A4,c4,rfl,hE,g1,g2,hk9⟩:=hcut;obtain⟨d0,d1,d2,d3,d4,d5,d6,d7,d8,d9⟩:=hE.c10;clear hE HX1 HO HZ Hk HSS HTB HREF;have HG1:=hid g1;have HG2:=hid g2;have HK9:=hid hk9;clear g1 g2 hk9
  iterate 2 (first|go_values|go_skip|go_guarded|go_step|go_upon|go_back)
  exact c77):p:=h
theorem c317 {p:Prop}(h:p:=by
 have H11:=hid h11;clear h11;have hm:foldM r=r+1:=by have q0:=H0.out ;have q1:=H1.out ;have q2:=H2.out ;have q3:=H3.out ;have q4:=H4.out ;have q5:=H5.out ;have q6:=H6.out ;have q7:=H7.out ;have q8:=H8.out ;have q9:=H9.out ;have q10:=H10.out ;have q11:=H11.out ;rw[foldM_ifs] ;omega
 clear H0 H1 H2 H3 H4 H5 H6 H7 H8 H9 H10 H11;exact zz51):p:=h
theorem c318 {p:Prop}(h:p:=by
 exact c12):p:=h
theorem c319 {p:Prop}(h:p:=by
 exact c12):p:=h
theorem c320 {p:Prop}(h:p:=by
 have zz118:=@c591;exact c590):p:=h
theorem c321 {p:Prop}(h:p:=by
 have hw1:IntKind.i64.wrap (s0*4)=s0*4:=IntWalk.i64_in _ (by omega)
 repeat(first|still_step|still_call (slab_at0 _))
 refine wpStill_nil ?_;change wpList _ _ _ _ _ wr.drew
 go_wp2_with fail
 go_roundw
 case rel=>
  refine⟨1,by omega,rfl,congrArg (Value.int .i64) (by simp only[baseC,szC]<;>omega),?_,?_,?_,?_⟩
  ·exact bA
  ·exact bA
  ·have hx:=hC2.set 0 (I (s0*4));exact c35
  ·exact kA
 case measure=>simp[intOf]):p:=h
theorem c322 {p:Prop}(h:p:=by
 have hw1:IntKind.i64.wrap (s1*16)=s1*16:=IntWalk.i64_in _ (by omega)
 repeat(first|still_step|still_call (slab_at1 _))
 refine wpStill_nil ?_;change wpList _ _ _ _ _ wr.drew
 go_wp2_with fail
 go_roundw
 case rel=>
  refine⟨2,by omega,rfl,congrArg (Value.int .i64) (by simp only[baseC,szC]<;>omega),?_,?_,?_,?_⟩
  ·exact bA
  ·exact bA
  ·have hx:=hC2.set 1 (I (s1*16));exact c35
  ·exact kA
 case measure=>simp[intOf]):p:=h
theorem c323 {p:Prop}(h:p:=by
 have H10:=hid h10;clear h10;have hm:foldM r=r+1:=by have q0:=H0.out ;have q1:=H1.out ;have q2:=H2.out ;have q3:=H3.out ;have q4:=H4.out ;have q5:=H5.out ;have q6:=H6.out ;have q7:=H7.out ;have q8:=H8.out ;have q9:=H9.out ;have q10:=H10.out ;rw[foldM_ifs] ;omega
 clear H0 H1 H2 H3 H4 H5 H6 H7 H8 H9 H10;exact zz53):p:=h
theorem c324 {p:Prop}(h:p:=by
 exact c12):p:=h
theorem c325 {p:Prop}(h:p:=by
 exact c12):p:=h
theorem c326 {p:Prop}(h:p:=by
 have a0:=(World.cell?_of_block (a:=⟨b,off+(i*3+0),none⟩) hbl).trans (hc _ _ p0);have a1:=(World.cell?_of_block (a:=⟨b,off+(i*3+1),none⟩) hbl).trans (hc _ _ p1);have a2:=(World.cell?_of_block (a:=⟨b,off+(i*3+2),none⟩) hbl).trans (hc _ _ p2);simp only[Nat.add_zero,←Nat.add_assoc]at a0 a1 a2;exact zz54):p:=h
theorem c327 {p:Prop}(h:p:=by
 have hok:=H0.out o (List.mem_of_getElem? ho);obtain⟨del,id,FA,fc,fs⟩:=o;dsimp only at a0 a1 a2;obtain⟨h1,h2,h3⟩:=hok;dsimp only at h1 h2 h3;have H3:=hid h3;obtain⟨A',cap,e1,f2,f3,f4,f5⟩:=h1;injection e1 with e1 _ e1c
 subst e1 e1c;unfold maxLen at f3;have H6:=hid f5;clear h2 h3 f4 f5 hc p0 p1 p2 hbl ho
 go_upto_region 5 with fail
 refine wp_gen (fun W3=>Blk W3 wr.heap.size [.bool del,J id,.slice FA fs.length fc]∧Keeps (· <w.heap.size) w W3) ⟨Blk.new wr [.bool del,J id,.slice FA fs.length fc] _,HK.out.trans (((Keeps.refl (· <wr.heap.size) wr).alloc (fun b hb=>hb) _).mono fun b hb=>by have:=HK.out.size;omega)⟩ (fun w2 HW=>?_)
 obtain⟨hB,hk2⟩:=HW;generalize wr.heap.size=BB at*;obtain⟨c0,c1,c2⟩:=hB.c3;clear a0 a1 a2 HK hB;have Hk2:=hid hk2;clear hk2
 go_wp2_with fail
 go_loopw[3,19] (fun nv iv wx=>∃(n' k:Nat),nv=I (n':Int)∧iv=I (k:Int)∧k≤fs.length∧n'≤2500∧Hid (Keeps (· <w.heap.size) w wx)) (fun _ iv _=>fs.length-(intOf iv).toNat)
 case atStart=>exact⟨n,0,rfl,rfl,Nat.zero_le _,hn,Hk2⟩
 case round=>
  clear c0 c1 c2 Hk2;obtain⟨n',k,rfl,rfl,hk,hn',HK⟩:=hrel
  by_cases hlk:k<fs.length
  ·have hlkI:(k:Int)<(fs.length:Int):=by omega
   obtain⟨fb,fo,rfl,hkf,hcf⟩:=H6.out (by omega)
   have a0:=(World.cell?_of_block (a:=⟨fb,fo+k,none⟩) (HK.out.block fb (Hb.out fb hkf))).trans (hcf k (.string fs[k]) (by rw[List.getElem?_map,List.getElem?_eq_getElem hlk];rfl))
   have hsz:=H3.out fs[k] (List.getElem_mem hlk);generalize fs[k]=x at*;clear hcf;have hw1:IntKind.i64.wrap (1+(x.size:Int))=1+(x.size:Int):=IntWalk.i64_in _ (by omega)
   have hw2:IntKind.i64.wrap ((n':Int)+(1+(x.size:Int)))=(n':Int)+(1+(x.size:Int)):=IntWalk.i64_in _ (by omega)
   by_cases hg:n'+(1+x.size)>2500
   ·have hg1:decide ((n':Int)+(1+(x.size:Int))>2500)=true:=decide_eq_true (by omega)
    have hg2:decide ((2500:Int)<(n':Int)+(1+(x.size:Int)))=true:=decide_eq_true (by omega)
    have hle:(i:Int)≤(c:Int):=by omega
    go_wp2_with fail
    exact hR'.out _ _ ⟨⟨i,c,by omega,rfl⟩,HK.out⟩
   ·have hg1:decide ((n':Int)+(1+(x.size:Int))>2500)=false:=decide_eq_false (by omega)
    have hg2:decide ((2500:Int)<(n':Int)+(1+(x.size:Int)))=false:=decide_eq_false (by omega)
    go_wp2_with fail
    go_roundw
    case rel=>exact⟨n'+(1+x.size),k+1,by first|rfl|(congr 1;omega)|go_num,by go_num,by omega,by omega,HK⟩
    case measure=>exact msA
  ·obtain rfl:k=fs.length:=by omega
   have hlkI:¬(fs.length:Int)<(fs.length:Int):=by omega
   go_wp2_with fail
   go_roundw
   case rel=>exact⟨n',i+1,rfl,by go_num,by omega,hn',HK⟩
   case measure=>exact msA):p:=h
theorem c328 {p:Prop}(h:p:=by
 have hok:=HO.out o (List.mem_of_getElem? hoi);clear hc p0 p1 p2 hbl hoi
 go_upto_region 7 with fail
 have hka:Keeps (· <wr.heap.size) wr (wr.alloc (.cells #[.bool o.del,J o.id,.slice o.A o.fs.length o.c] 37)):=(Keeps.refl _ _).alloc (fun b hb=>hb) _;have hOB:=Blk.new wr [.bool o.del,J o.id,.slice o.A o.fs.length o.c] 37;have hWa:=HWr.out.more hka;generalize hOe:wr.heap.size=OB at*;generalize wr.alloc (.cells #[.bool o.del,J o.id,.slice o.A o.fs.length o.c] 37)=wa at*;have hoka:o.ok wa (fun b=>K b∨(OB≤b∧b<wa.heap.size)):=(hok.keep hWa.kp fun b hb=>hb).mono fun b hb=>hWa.k0 b hb
 generalize (fun b=>K b∨(OB≤b∧b<wa.heap.size))=K1 at*;clear a0 a1 a2 HWr hka hok
 by_cases h30:30<i
 ·have h30I:(30:Int)<(i:Int):=by omega
  obtain⟨b0,b1,b2⟩:=hOB.c3;clear hOB;have HWa:=hid hWa;clear hWa
  go_wp2_with fail
  refine(HEND.out wa _ _ _ _ HWa.out).mono ?_;exact c107
 ·have h30I:(i:Int)≤30:=by omega
  have hgr:=law_great o wa K1 hWa.lt hoka;unfold OpV.cells at hgr;have hob:=hOB;obtain⟨b0,b1,b2⟩:=hob.c3;clear hob;have HGR:=hid hgr;clear hgr;have HWa:=hid hWa;have HOB:=hid hOB;have Hoka:=hid hoka;clear hWa hOB hoka
  go_wp2_with fail
  refine HGR.out.mono ?_;rintro e wb ⟨gb,rfl,hgb,hkb⟩;have hWb:=HWa.out.more hkb;have hOBb:=HOB.out.keep hkb HOB.out.lt;have hokb:=(Hoka.out.keep hkb HWa.out.lt).mono (L:=fun b=>K1 b∨(wa.heap.size≤b∧b<wb.heap.size)) fun b hb=>Or.inl hb;generalize (fun b=>K1 b∨(wa.heap.size≤b∧b<wb.heap.size))=K2 at*;clear HGR HWa HOB Hoka hkb b0 b1 b2
  cases gb with
  |true=>
   clear hOBb;have HWb:=hid hWb;clear hWb
   go_wp2_with fail
   refine(HEND.out wb _ _ _ _ HWb.out).mono ?_;exact c107
  |false=>
   have hfn:=hgb rfl;obtain⟨live,s0,t0,q0',hi0,hG⟩:=HG.out;obtain⟨W1,er,cs1,-,-,-,-,hv1,⟨live1,t1,q1',hi1,hG1⟩,hdo⟩:=do_good hWb hG HT.out HF.out o hokb (by omega) (by omega)
   unfold OpV.cells at hdo;have HDO:=hid hdo;have hob:=hOBb;obtain⟨b0,b1,b2⟩:=hob.c3;clear hob hdo hOBb hokb hG hgb hfn HG;have HWb:=hid hWb;have HG1:=hid hG1;clear hWb hG1
   go_wp2_with fail
   refine HDO.out.mono ?_;rintro e wc ⟨rfl,⟨st2,hWc,-⟩,-⟩;clear HDO HWb b0 b1 b2;have HWc:=hid hWc;clear hWc
   go_wp2_with fail
   go_roundw
   case rel=>exact⟨i+1,_,cs1,W1,st2,by go_num,by omega,by omega,hid ⟨_,_,_,_,_,HG1.out⟩,by omega,HWc⟩
   case measure=>exact msA):p:=h
theorem c329 {p:Prop}(h:p:=by
 have a0:=(World.cell?_of_block (a:=⟨b0,o0+i*3+0,none⟩) (HK.out.block b0 hh0)).trans (g1 0 _ rfl);have a1:=(World.cell?_of_block (a:=⟨b0,o0+i*3+1,none⟩) (HK.out.block b0 hh0)).trans (g1 1 _ rfl);have a2:=(World.cell?_of_block (a:=⟨b0,o0+i*3+2,none⟩) (HK.out.block b0 hh0)).trans (g1 2 _ rfl);exact zz55):p:=h
theorem c330 {p:Prop}(h:p:=by
 simp only[Nat.add_zero]at a0;have hBase:=fun W=>ref12_base x W (by unfold Small;omega)
 have hfr:=tfindL_range cs x.base id x.docs 0;have hFind:=fun W hk=>Hfind.out W hk x.base x.docs hbs x2;obtain⟨xa,xd,xs⟩:=x;dsimp only at a0 a1 a2 hBase hFind hst hfr x0 x1 x2;generalize SegM.base ⟨xa,xd,xs⟩=bs at*;generalize (tfindL cs bs id xd 0)=fr at*;obtain⟨fv,fs⟩:=fr;dsimp only at hst hfr hFind;obtain⟨f0,f1⟩:=hfr;obtain⟨c0,c1⟩:=HS.out.c2;clear g1 hx;have Hst:=hid hst
 have HBase:=hid hBase;have HFind:=hid hFind;have Hbs:=hid hbs;clear hst hBase hFind hbs
 go_upto_region 5 with fail
 have hl0:=HS.out.lt;have hK1:Keeps (· <w.heap.size) w (wr.alloc (.cells #[I xa,I xd,.bool xs] 65)):=HK.out.alloc (fun b hb=>Nat.lt_of_lt_of_le hb HK.out.size) _;have hS1:=HS.out.alloc (.cells #[I xa,I xd,.bool xs] 65);have hX1:=Blk.new wr [I xa,I xd,.bool xs] 65;generalize wr.heap.size=xb at*;generalize wr.alloc (.cells #[I xa,I xd,.bool xs] 65)=W1 at*;have y0:=hX1.cell 0
 have y1:=hX1.cell 1;have y2:=hX1.cell 2;have z0:=hS1.cell 0;simp only[List.getElem?_cons_zero,List.getElem?_cons_succ]at y0 y1 y2 z0;have hl1:=hX1.lt;have hl2:=hS1.lt;have q0:=fun q:KC (· <W1.heap.size) W1=>q.cell hl1 y0;have q1:=fun q:KC (· <W1.heap.size) W1=>q.cell hl1 y1;have q2:=fun q:KC (· <W1.heap.size) W1=>q.cell hl1 y2;have q3:=fun q:KC (· <W1.heap.size) W1=>q.cell hl2 z0
 have HB1:=hid (fun q:KC (· <W1.heap.size) W1=>q.calls ((HBase.out q.w).mono fun e w' h=>⟨h.1,h.2.mono fun b hb=>Nat.lt_of_lt_of_le hb q.k.size⟩));have HF1:=hid (fun q:KC (· <W1.heap.size) W1=>q.calls ((HFind.out q.w (hK1.trans (q.k.mono fun b hb=>Nat.lt_of_lt_of_le hb hK1.size))).mono fun e w' h=>⟨h.1,h.2.mono fun b hb=>Nat.lt_of_lt_of_le hb q.k.size⟩));clear y0 y1 y2 z0 hl1 hX1 a0 a1 a2 c0 c1
 have HK1:=hid hK1;have HS1:=hid hS1;clear hK1 hS1;refine wp_region_kc (· <W1.heap.size) (by kernel_rfl) (by kernel_rfl) ?_
 repeat(go_big_quiet_step (first|exact HB1.out _|exact HF1.out _))
 refine wpQuiet_nil ?_;rintro w5 ⟨⟨_,hk5⟩,rfl⟩;have hK5:Keeps (· <w.heap.size) w w5:=HK1.out.trans (hk5.mono fun b hb=>Nat.lt_of_lt_of_le hb HK1.out.size);have hS5:=HS1.out.keep hk5 hl2;clear q0 q1 q2 q3 HB1 HF1 HK1 HS1 hk5 hl2;have HK5:=hid hK5;have HS5:=hid hS5;clear hK5 hS5
 by_cases hfv:0≤fv
 ·have hres:=Hst.out;rw[if_pos hfv]at hres;have hfd:decide (fv≥0)=true:=decide_eq_true hfv;clear Hst;have Hres:=hid hres;clear hres
  go_wp2_with fail
  exact hR'.out _ _ ⟨by first|(rw[Hres.out];done)|(rw[Hres.out];rfl),HK5.out⟩
 ·have hres:=Hst.out;rw[if_neg hfv]at hres;have hfd:decide (fv≥0)=false:=decide_eq_false hfv;clear Hst;have Hres:=hid hres;clear hres
  go_wp2_with fail
  go_roundw
  case rel=>exact⟨i+1,by go_num,by omega,Hres,HK5,HS5⟩
  case measure=>exact msA):p:=h
theorem c331 {p:Prop}(h:p:=by
 have c0:=(World.cell?_of_block (a:=⟨b2,o2+i*3+0,none⟩) (HK.out.block b2 hh2)).trans (g2 0 _ rfl);have c1:=(World.cell?_of_block (a:=⟨b2,o2+i*3+1,none⟩) (HK.out.block b2 hh2)).trans (g2 1 _ rfl);have c2:=(World.cell?_of_block (a:=⟨b2,o2+i*3+2,none⟩) (HK.out.block b2 hh2)).trans (g2 2 _ rfl);simp only[Nat.add_zero]at a0 c0;obtain⟨xa,xd,xs⟩:=x;dsimp only at a0 a1 a2 c0 c1 c2
 have y0:=HA.out.cell 0;have z0:=HB.out.cell 0;simp only[List.getElem?_cons_zero]at y0 z0;clear g1 g2 hx
 go_upto_region 6 with fail
 go_quiet (fail)
 go_wp2_with fail
 generalize nq=nB at*
 go_roundw
 case rel=>exact⟨i+1,by go_num,by omega,hid (HA.out.drewN _),hid (HB.out.drewN _),hid (HK.out.drewN _)⟩
 case measure=>exact msA):p:=h
theorem c332 {p:Prop}(h:p:=by
 have HR:=hid (show z+256=X+256*((i+1:Nat):Int)∧∀j:Nat,j<i+1→¬(X+256*(j:Int)≤a∧a<X+256*(j:Int)+256)from⟨by omega,fun j hj hh=>by
  by_cases e:j<i
  ·exact hsl j e hh
  ·obtain rfl:j=i:=by omega
   omega⟩)
 have HBK:=hid hblk;have Hkp:=hid hkp;clear hkp;exact zz56):p:=h
theorem c333 {p:Prop}(h:p:=by
 clear hz hblk hsl h2
 go_wp2_with fail
 go_quiet (fail)
 go_wp2_with fail
 refine(slab_at3 _).mono ?_;rintro e w2 ⟨rfl,rfl⟩;exact c441):p:=h
theorem c334 {p:Prop}(h:p:=by
 clear hz hblk hsl h1
 go_wp2_with fail
 go_quiet (fail)
 exact c441):p:=h
theorem c335 {p:Prop}(h:p:=by
 have HR:=hid (show z+16=X+16*((i+1:Nat):Int)∧∀j:Nat,j<i+1→¬(X+16*(j:Int)≤a∧a<X+16*(j:Int)+16)from⟨by omega,fun j hj hh=>by
  by_cases e:j<i
  ·exact hsl j e hh
  ·obtain rfl:j=i:=by omega
   omega⟩)
 have HBK:=hid hblk;have Hkp:=hid hkp;clear hkp;exact zz57):p:=h
theorem c336 {p:Prop}(h:p:=by
 clear hz hblk hsl h2
 go_wp2_with fail
 go_quiet (fail)
 go_wp2_with fail
 refine(slab_at1 _).mono ?_;rintro e w2 ⟨rfl,rfl⟩;exact c442):p:=h
theorem c337 {p:Prop}(h:p:=by
 clear hz hblk hsl h1
 go_wp2_with fail
 go_quiet (fail)
 exact c442):p:=h
theorem c338 {p:Prop}(h:p:=by
 have HR:=hid (show z+64=X+64*((i+1:Nat):Int)∧∀j:Nat,j<i+1→¬(X+64*(j:Int)≤a∧a<X+64*(j:Int)+64)from⟨by omega,fun j hj hh=>by
  by_cases e:j<i
  ·exact hsl j e hh
  ·obtain rfl:j=i:=by omega
   omega⟩)
 have HBK:=hid hblk;have Hkp:=hid hkp;clear hkp;exact zz58):p:=h
theorem c339 {p:Prop}(h:p:=by
 clear hz hblk hsl h2
 go_wp2_with fail
 go_quiet (fail)
 go_wp2_with fail
 refine(slab_at2 _).mono ?_;rintro e w2 ⟨rfl,rfl⟩;exact c443):p:=h
theorem c340 {p:Prop}(h:p:=by
 clear hz hblk hsl h1
 go_wp2_with fail
 go_quiet (fail)
 exact c443):p:=h
theorem c341 {p:Prop}(h:p:=by
 have HR:=hid (show z+4=X+4*((i+1:Nat):Int)∧∀j:Nat,j<i+1→¬(X+4*(j:Int)≤a∧a<X+4*(j:Int)+4)from⟨by omega,fun j hj hh=>by
  by_cases e:j<i
  ·exact hsl j e hh
  ·obtain rfl:j=i:=by omega
   omega⟩)
 have HBK:=hid hblk;have Hkp:=hid hkp;clear hkp;exact zz59):p:=h
theorem c342 {p:Prop}(h:p:=by
 clear hz hblk hsl h2
 go_wp2_with fail
 go_quiet (fail)
 go_wp2_with fail
 refine(slab_at0 _).mono ?_;rintro e w2 ⟨rfl,rfl⟩;exact c444):p:=h
theorem c343 {p:Prop}(h:p:=by
 clear hz hblk hsl h1
 go_wp2_with fail
 go_quiet (fail)
 exact c444):p:=h
theorem c344 {p:Prop}(h:p:=by
 clear hw hcl hr hd HE;have Hex:=hid hex;have HTr:=hid hTr;clear hex hTr
 go_wp2_with fail
 refine(fold_class r (by omega) wr HTr.out).mono ?_
 rintro e w2 ⟨rfl,hk⟩;have hR2:=HR.out.calls hk;clear HR hk;have HR2:=hid hR2;clear hR2
 go_wp2_with fail
 exact zz60):p:=h
theorem c345 {p:Prop}(h:p:=by
 go_roundw
 case rel=>exact⟨i+1,place,acc,A,cp,rfl,rfl,by go_num,by omega,by omega,by omega,HR2,Hex⟩
 case measure=>exact msA):p:=h
theorem c346 {p:Prop}(h:p:=by
 go_loopw[6,7] (fun jv wv ws=>∃(j:Nat) (wd:List Int) (A2:Option Addr) (c2:Nat),jv=I (j:Int)∧wv= .slice A2 wd.length c2∧i≤j∧j≤rs.length∧wd.length≤j∧Hid (NewRow w2 ws 21 (Value.int .i32) (.slice A2 wd.length c2) wd)∧Hid (WdAt rs i j wd)) (fun jv _ _=>rs.length-(intOf jv).toNat)
 case atStart=>exact⟨i,[],none,0,rfl,rfl,Nat.le_refl _,by omega,Nat.zero_le _,hid ⟨⟨rfl,Or.inl ⟨rfl,rfl⟩⟩,Keeps.refl _ _⟩,hid (WdAt.start _ _)⟩
 case round=>
  rename World=>ws
  obtain⟨j,wd,A2,c2,rfl,rfl,hij,hj,hwj,HW,HD⟩:=hrel;have hT2:=(HT1.out.keep HR2.out.2).keep HW.out.2;have hw12:=HR2.out.2.size;have hw23:=HW.out.2.size;have hS2:=(HS.out.keep HR2.out.2 (fun b hb=>hb.2)).keep HW.out.2 (fun b hb=>Nat.lt_of_lt_of_le hb.2 hw12)
  by_cases hlt2:j<rs.length
  ·have hltI2:(j:Int)<(rs.length:Int):=by omega
   obtain⟨r2,hr2⟩:∃r,rs[j]? =some r:=⟨_,List.getElem?_eq_getElem hlt2⟩;have hrr2:=Hrb.out r2 (List.mem_of_getElem? hr2);obtain⟨b2,off2,c92,hv2,hb2,hc2⟩:=hS2.get j r2 hr2;injection hv2 with hA2 h22 h32
   cases hA2
   subst h32
   by_cases hcl2:classM r2=0
   ·have hcb2:(classM r2==0)=true:=by simp[hcl2]
    have hcb3:(!(classM r2==0))=false:=by simp[hcl2]
    have hst:=HD.out.stop (fun r h=>by rw[hr2]at h;cases h;unfold isW;simp[hcl2])
    have Hst:=hid hst;have HT2:=hid hT2;clear hst hT2;clear hcl2 hr2 hS2 HD
    go_wp2_with fail
    refine(fold_class r2 (by omega) ws HT2.out).mono ?_
    rintro e w3 ⟨rfl,hk⟩;have HW3:=hid ((⟨ownB_keepS HW.out.1 hk,HW.out.2.trans (hk.mono fun b hb=>Nat.lt_of_lt_of_le hb hw23)⟩:NewRow w2 w3 21 (Value.int .i32) (.slice A2 wd.length c2) wd));clear hk HW;exact c14
   ·have hcb2:(classM r2==0)=false:=by simpa using hcl2
    have hwr:isW r2=true:=by unfold isW;simp[hcl2]
    have hds:=HD.out.step hr2 hwr hij;have Hds:=hid hds;have HT2:=hid hT2;clear hds hT2;clear hwr hcl2 hr2 hS2 HD
    go_wp2_with fail
    refine(fold_class r2 (by omega) ws HT2.out).mono ?_
    rintro e w3 ⟨rfl,hk⟩;have hc3:=(World.cell?_of_block (a:=⟨b,off+j,none⟩) (hk.block b (by omega))).trans hc2
    have hT3:=HT2.out.keep hk;have HW3:=hid ((⟨ownB_keepS HW.out.1 hk,HW.out.2.trans (hk.mono fun b hb=>Nat.lt_of_lt_of_le hb hw23)⟩:NewRow w2 w3 21 (Value.int .i32) (.slice A2 wd.length c2) wd));have hk3:=hk.size;clear hk HW HT2;have HT3:=hid hT3;clear hT3
    go_wp2_with fail
    refine(fold_fold r2 (by omega) w3 HT3.out).mono ?_
    rintro e w4 ⟨rfl,hk4⟩;have HW4:=hid ((⟨ownB_keepS HW3.out.1 hk4,HW3.out.2.trans (hk4.mono fun b hb=>by omega)⟩:NewRow w2 w4 21 (Value.int .i32) (.slice A2 wd.length c2) wd))
    have hk5:=HW4.out.2.size;clear HW3 hk4;generalize foldM r2=fr at*;obtain⟨i0,hi,hz0,hz1,hz2⟩:=info_partsF Tryz.infoI32
    go_wp2_with (at_builtin;go_must (refine wpList_append_own_at _ rfl _ _ 179 rfl (w2.heap.size) 21 i0 (.int .i32 0) 1 4 Tryz.underlying179 hi hz0 hz1 hz2 rfl (by decide) (.slice A2 wd.length c2) wd.length (wd.map (Value.int .i32)) rfl (ownB_keepS HW4.out.1 ((Keeps.refl _ _).alloc (fun b hb=>hb) _)) ⟨w4.heap.size,0,none⟩ 1 1 [.int .i32 fr] rfl (by simp) (own_news (own_lit w4 0 _ _ 1 1 [.int .i32 fr] rfl rfl (by decide) (Nat.zero_le _))) ?_ ?_ ?_ ?_ ?_))
    all_goals(try(first|with_reducible exact one1 _ _|with_reducible exact one2 _ _ _|with_reducible exact one4 _ _ _ _ _|with_reducible exact oneM _ _|exact rfl|exact fun _ _=>rfl|exact⟨rfl,rfl⟩|exact⟨rfl,rfl,rfl⟩|exact⟨rfl,rfl,rfl,rfl⟩|(unfold maxLen;omega)|omega|(simp;omega)|(simp;done)))
    (try clear hi)
    (try clear hz0)
    (try clear hz1)
    (try clear hz2)
    intro v' w6 hown hgr _ hf;have hN:=NewRow.push HW4.out hown hgr;obtain⟨A',cp',rfl⟩:=ownB_form hown;clear hown hgr hf HW4;have HN:=hid hN;clear hN
    go_wp2_with fail
    go_roundw
    case rel=>exact⟨j+1,wd++[fr],A',cp',by go_num,by simp,by omega,by omega,by simp;omega,by simpa using HN,Hds⟩
    case measure=>exact msA
  ·have hst:=HD.out.stop (fun r h=>by rw[List.getElem?_eq_none (by omega)]at h;cases h)
   have hltI2:¬(j:Int)<(rs.length:Int):=by omega
   obtain⟨w3,rfl⟩:∃x,x=ws:=⟨_,rfl⟩;have HW3:=HW;clear HW HD hS2 hT2;have Hst:=hid hst;clear hst;exact c14):p:=h
theorem c347 {p:Prop}(h:p:=by
 show(if(s.load (s0+(((h+i)%n:Nat):Int))).2.isOff=true then Tree.ret (0,-1)else if(s.load (s0+(((h+i)%n:Nat):Int))).1=0 then _ else _:Tree (Int×Int)).exec (s.load (s0+(((h+i)%n:Nat):Int))).2=_
 exact zz61):p:=h
theorem c348 {p:Prop}(h:p:=by
 rw[e,if_neg (by rw[ho];decide),if_pos rfl];rfl):p:=h
theorem c349 {p:Prop}(h:p:=by
 rw[e,if_neg (by rw[ho];decide),if_neg hx]
 show(if(s1.load (x+1)).1≠len then findD s0 n h C len f (i+1)else _:Tree (Int×Int)).exec (s1.load (x+1)).2=_
 rw[e2,if_pos hy]):p:=h
theorem c350 {p:Prop}(h:p:=by
 rw[e,if_neg (by rw[ho];decide),if_neg hx]
 show(if(s1.load (x+1)).1≠len then findD s0 n h C len f (i+1)else(cmpD x C 0).bind (contD s0 n h C len f i x):Tree (Int×Int)).exec (s1.load (x+1)).2=_
 rw[e2,if_neg (by simp)]):p:=h
theorem c351 {p:Prop}(h:p:=by
 have zz158:=@c743;exact c742):p:=h
theorem c352 {p:Prop}(h:p:=by
 go_roundw
 case rel=>exact⟨1,rfl,by decide,hid Hst.out.drew,hid Hnb9.out.drew,hid Hkk.out.drew,by simpa using hsx⟩
 case measure=>exact msA):p:=h
theorem c353 {p:Prop}(h:p:=by
 go_roundw
 case rel=>exact⟨2,rfl,by decide,hid Hst.out.drew,hid Hnb9.out.drew,hid Hkk.out.drew,by simpa using hsx⟩
 case measure=>exact msA):p:=h
theorem c354 {p:Prop}(h:p:=by
 go_roundw
 case rel=>exact⟨3,rfl,by decide,hid Hst.out.drew,hid Hnb9.out.drew,hid Hkk.out.drew,by simpa using hsx⟩
 case measure=>exact msA):p:=h
theorem c355 {p:Prop}(h:p:=by
 go_roundw
 case rel=>exact⟨4,rfl,by decide,hid Hst.out.drew,hid Hnb9.out.drew,hid Hkk.out.drew,by simpa using hsx⟩
 case measure=>exact msA):p:=h
theorem c356 {p:Prop}(h:p:=by
 go_roundw
 case rel=>exact⟨5,rfl,by decide,hid Hst.out.drew,hid Hnb9.out.drew,hid Hkk.out.drew,by simpa using hsx⟩
 case measure=>exact msA):p:=h
theorem c357 {p:Prop}(h:p:=by
 go_roundw
 case rel=>exact⟨6,rfl,by decide,hid Hst.out.drew,hid Hnb9.out.drew,hid Hkk.out.drew,by simpa using hsx⟩
 case measure=>exact msA):p:=h
theorem c358 {p:Prop}(h:p:=by
 have hc1:=hD1.b1;unfold WrM.vals at hc1;dsimp only at hc1;obtain⟨y0,y1,y2,y3,y4,y5,y6,y7,y8⟩:=hc1.c9;have hz:=hD1.b2;unfold zer9 at hz;obtain⟨z0,z1,z2,z3,z4,z5,z6,z7,z8⟩:=hz.c9;have f:=hz.free;exact zz63):p:=h
theorem c359 {p:Prop}(h:p:=by
 clear hc1 hz;have HD1:=hid hD1;have Hres:=hid hres;clear hD1 hres
 go_wp2_with fail
 obtain⟨hE,hrr,hkk⟩:=HD1.out.out;unfold WrM.vals at hE;dsimp only at hE hrr hkk;clear y0 y1 y2 y3 y4 y5 y6 y7 y8 z0 z1 z2 z3 z4 z5 z6 z7 z8 f;generalize (((((((((w1.setCell ⟨B+1+1,0,none⟩ (.slice A segs.length cp)).setCell ⟨B+1+1,1,none⟩ (I wt)).setCell ⟨B+1+1,2,none⟩ (J wv)).setCell ⟨B+1+1,3,none⟩ (I u0)).setCell ⟨B+1+1,4,none⟩ (I u1)).setCell ⟨B+1+1,5,none⟩ (I u2)).setCell ⟨B+1+1,6,none⟩ (I u3)).setCell ⟨B+1+1,7,none⟩ (I u4)).setCell ⟨B+1+1,8,none⟩ (I u5))=WZ at*
 obtain⟨d0,d1,d2,d3,d4,d5,d6,d7,d8⟩:=hE.c9;refine bodyPost_ret (v:= .tuple #[.agg #[.slice A segs.length cp,I wt,J wv,I u0,I u1,I u2,I u3,I u4,I u5],I 7]) ?_ rfl ?_
 ·simp[results,Tryz.results35,go_sem,d0,d1,d2,d3,d4,d5,d6,d7,d8]
 ·refine hR'.out _ _ ?_;rw[Hres.out];exact⟨rfl,hrr,hkk⟩):p:=h
theorem c360 {p:Prop}(h:p:=by
 clear hc1 hz g1 hx hblk Hfd Hres2;unfold RowM.vals at hrow;dsimp only at hrow;have HD1:=hid hD1;have Hres:=hid hres;have HBase:=hid hBase;have Hrow:=hid hrow;have HpdS:=hid hpdS;have Hbs:=hid hbs;clear hD1 hres hBase hrow hpdS hbs
 go_wp2_with fail
 refine(HBase.out _).mono ?_;rintro e w2 ⟨rfl,hk2⟩;have hD2:=HD1.out.below hk2;clear hk2 HBase HD1 a0 a1 a2;have HD2:=hid hD2;clear hD2
 go_wp2_with fail
 refine(Hrow.out _ HD2.out.rm).mono ?_;rintro e w3 ⟨rfl,hr3,hk3⟩;have hD3:=HD2.out.keep hr3 hk3;have hD4:=hD3.below ((Keeps.refl (· <w3.heap.size) _).alloc (fun b hb=>hb) (.cells #[J rb,J ri,J rl,J rt] 113));have hrb:w3.heap.size≠B+1:=by have:=hD3.b1.lt;omega
 clear hr3 hk3 hD3 HD2 Hrow;have HD4:=hid hD4;clear hD4
 go_wp2_with fail
 refine(step_off HD4.out.rm).mono ?_;rintro e w5 ⟨rfl,rfl⟩;clear y0 y1 y2 y3 y4 y5 y6 y7 y8 z0 z1 z2 z3 z4 z5 z6 z7 z8 f;have hc1:=HD4.out.b1;unfold WrM.vals at hc1;dsimp only at hc1;obtain⟨y0,y1,y2,y3,y4,y5,y6,y7,y8⟩:=hc1.c9;have hz:=HD4.out.b2;unfold zer9 at hz;obtain⟨z0,z1,z2,z3,z4,z5,z6,z7,z8⟩:=hz.c9;have f:=hz.free;clear hc1 hz
 cases hoff:s2.isOff with
 |true=>
  have hres:res=((⟨segs,wt,wv,⟨u0,u1,u2,u3,u4,u5⟩⟩,7),s2):=by rw[Hres.out,if_pos (Or.inl hoff)];rfl
  clear hoff;exact c37
 |false=>
  by_cases hrt:rt=0
  ·subst hrt;have hres:res=((killT bs pd (wv+1)).bind fun _=> .store 1 (wv+1) (.ret (⟨segs,wt,wv+1,⟨u0,u1,u2,u3,u4,u5⟩⟩,0)):Tree (WrM×Int)).exec s2:=by rw[Hres.out,if_neg (by simp[hoff])]
   rw[Tree.exec_bind]at hres;have hw1:IntKind.u32.wrap (wv+1)=wv+1:=IntWalk.u32_in _ (by omega)
   have fv:=HD4.out.b1.free 2;have hD5:=HD4.out.ver (wv+1);dsimp only at hD5;have hkill:=fun W' (hR:RM W' (fun b=>K b∨(B≤b∧b<B+1+1+1)) r m c s2)=>table_kill hR bs pd (wv+1) Hbs.out HpdS.out (by unfold U32;omega)
   generalize (killT bs pd (wv+1)).exec s2=fk at*;obtain⟨⟨⟩,s3⟩:=fk;have hres:res=((⟨segs,wt,wv+1,⟨u0,u1,u2,u3,u4,u5⟩⟩,0),s3.store 1 (wv+1)):=hres;dsimp only at hkill;clear hoff;have Hres9:=hid hres;have HD5:=hid hD5;have Hkill:=hid hkill;clear hres hD5 hkill;clear Hres
   go_wp2_with fail
   refine(Hkill.out _ HD5.out.rm).mono ?_;rintro e w6 ⟨rfl,hr6,hk6⟩;have hD6:=HD5.out.keep hr6 hk6;clear hr6 hk6 HD5 Hkill HD4 y0 y1 y2 y3 y4 y5 y6 y7 y8 z0 z1 z2 z3 z4 z5 z6 z7 z8 f;have hc1:=hD6.b1;unfold WrM.vals at hc1;dsimp only at hc1;obtain⟨y0,y1,y2,y3,y4,y5,y6,y7,y8⟩:=hc1.c9;have hz:=hD6.b2;unfold zer9 at hz;obtain⟨z0,z1,z2,z3,z4,z5,z6,z7,z8⟩:=hz.c9;have f:=hz.free
   clear hc1 hz;have HD6:=hid hD6;clear hD6
   go_wp2_with fail
   refine(step_store HD6.out.rm 1 (wv+1) (by unfold U32;omega)).mono ?_
   rintro e w7 ⟨rfl,hr7,hk7⟩;have hD7:=HD6.out.keep hr7 hk7;clear hr7 hk7 HD6 y0 y1 y2 y3 y4 y5 y6 y7 y8 z0 z1 z2 z3 z4 z5 z6 z7 z8 f;have hc1:=hD7.b1;unfold WrM.vals at hc1;dsimp only at hc1;obtain⟨y0,y1,y2,y3,y4,y5,y6,y7,y8⟩:=hc1.c9;have hz:=hD7.b2;unfold zer9 at hz;obtain⟨z0,z1,z2,z3,z4,z5,z6,z7,z8⟩:=hz.c9;have f:=hz.free;clear hc1 hz;have HD7:=hid hD7;clear hD7
   go_wp2_with fail
   obtain⟨hE,hrr,hkk⟩:=HD7.out.out;unfold WrM.vals at hE;dsimp only at hE hrr hkk;clear y0 y1 y2 y3 y4 y5 y6 y7 y8 z0 z1 z2 z3 z4 z5 z6 z7 z8 f;generalize (((((((((w7.setCell ⟨B+1+1,0,none⟩ (.slice (some ⟨b0,o0,none⟩) segs.length cp)).setCell ⟨B+1+1,1,none⟩ (I wt)).setCell ⟨B+1+1,2,none⟩ (J (wv+1))).setCell ⟨B+1+1,3,none⟩ (I u0)).setCell ⟨B+1+1,4,none⟩ (I u1)).setCell ⟨B+1+1,5,none⟩ (I u2)).setCell ⟨B+1+1,6,none⟩ (I u3)).setCell ⟨B+1+1,7,none⟩ (I u4)).setCell ⟨B+1+1,8,none⟩ (I u5))=WZ at*
   obtain⟨d0,d1,d2,d3,d4,d5,d6,d7,d8⟩:=hE.c9;refine bodyPost_ret (v:= .tuple #[.agg #[.slice (some ⟨b0,o0,none⟩) segs.length cp,I wt,J (wv+1),I u0,I u1,I u2,I u3,I u4,I u5],I 0]) ?_ rfl ?_
   ·simp[results,Tryz.results35,go_sem,d0,d1,d2,d3,d4,d5,d6,d7,d8]
   ·refine hR'.out _ _ ?_;rw[Hres9.out];exact⟨rfl,hrr,hkk⟩
  ·have hrtb:(rt !=0)=true:=by simpa using hrt
   have hres:res=((⟨segs,wt,wv,⟨u0,u1,u2,u3,u4,u5⟩⟩,7),s2):=by rw[Hres.out,if_pos (Or.inr hrt)];rfl
   clear hoff hrt;exact c37):p:=h
theorem c361 {p:Prop}(h:p:=by
 obtain⟨j,rfl,rfl,hj,rfl,HC⟩:=hrel;have hab:=accN_bnd H192.out j (by omega) HC.out
 have hab2:0≤accN s i j∧accN s i j≤8388607:=by
  exact c140
 obtain⟨hab0,hab1⟩:=hab2;clear hab;exact zz64):p:=h
theorem c362 {p:Prop}(h:p:=by
 by_cases hlt:j+1<2
 ·have hltI:(j:Int)+1<2:=by omega
  exact c15
 ·obtain rfl:j=1:=by omega
  have hsm:=atP_some s i 1 hi H192.out (by rw[Hk.out];rfl) (by omega) HC.out
  rw[Hat.out]at hsm;generalize accN s i 1=n at*;have Hsm:=hid hsm;clear hsm
  go_wp2_with fail
  refine(ref4_may n w).mono ?_;rintro e w2 ⟨rfl,rfl⟩
  cases hv:Utf8.valid n with
  |false=>
   exact c446
  |true=>
   go_wp2_with fail
   refine(ref4_bytes n (by omega) w).mono ?_
   rintro e w2 ⟨v,rfl,hN⟩;obtain⟨A,c,rfl⟩:=ownB_form hN.1;have hk2:=hN.2;clear hN
   by_cases hl:(encB n).length=2
   ·have he:=Hsm.out.1 ⟨hv,hl⟩;injection he with e1 e2
    have hlb:(((encB n).length:Int) !=2)=false:=by simp[hl]
    exact c85
   ·have he:=Hsm.out.2 (fun h=>hl h.2);injection he with e1 e2
    subst e1 e2;have hlb:(((encB n).length:Int) !=2)=true:=by simp;omega
    exact c112):p:=h
theorem c363 {p:Prop}(h:p:=by
 by_cases hlt:j+1<3
 ·have hltI:(j:Int)+1<3:=by omega
  exact c15
 ·obtain rfl:j=2:=by omega
  have hsm:=atP_some s i 2 hi H192.out (by rw[Hk.out];rfl) (by omega) HC.out
  rw[Hat.out]at hsm;generalize accN s i 2=n at*;have Hsm:=hid hsm;clear hsm
  go_wp2_with fail
  refine(ref4_may n w).mono ?_;rintro e w2 ⟨rfl,rfl⟩
  cases hv:Utf8.valid n with
  |false=>
   exact c446
  |true=>
   go_wp2_with fail
   refine(ref4_bytes n (by omega) w).mono ?_
   rintro e w2 ⟨v,rfl,hN⟩;obtain⟨A,c,rfl⟩:=ownB_form hN.1;have hk2:=hN.2;clear hN
   by_cases hl:(encB n).length=3
   ·have he:=Hsm.out.1 ⟨hv,hl⟩;injection he with e1 e2
    have hlb:(((encB n).length:Int) !=3)=false:=by simp[hl]
    exact c85
   ·have he:=Hsm.out.2 (fun h=>hl h.2);injection he with e1 e2
    subst e1 e2;have hlb:(((encB n).length:Int) !=3)=true:=by simp;omega
    exact c112):p:=h
theorem c364 {p:Prop}(h:p:=by
 by_cases hlt:j+1<4
 ·have hltI:(j:Int)+1<4:=by omega
  exact c15
 ·obtain rfl:j=3:=by omega
  have hsm:=atP_some s i 3 hi H192.out (by rw[Hk.out];rfl) (by omega) HC.out
  rw[Hat.out]at hsm;generalize accN s i 3=n at*;have Hsm:=hid hsm;clear hsm
  go_wp2_with fail
  refine(ref4_may n w).mono ?_;rintro e w2 ⟨rfl,rfl⟩
  cases hv:Utf8.valid n with
  |false=>
   exact c446
  |true=>
   go_wp2_with fail
   refine(ref4_bytes n (by omega) w).mono ?_
   rintro e w2 ⟨v,rfl,hN⟩;obtain⟨A,c,rfl⟩:=ownB_form hN.1;have hk2:=hN.2;clear hN
   by_cases hl:(encB n).length=4
   ·have he:=Hsm.out.1 ⟨hv,hl⟩;injection he with e1 e2
    have hlb:(((encB n).length:Int) !=4)=false:=by simp[hl]
    exact c85
   ·have he:=Hsm.out.2 (fun h=>hl h.2);injection he with e1 e2
    subst e1 e2;have hlb:(((encB n).length:Int) !=4)=true:=by simp;omega
    exact c112):p:=h
theorem c365 {p:Prop}(h:p:=by
 clear hc hp;have Hst:=hid hst;have Hkk:=hid hkk;clear hst hkk
 go_wp2_with (go_at_call 68;first|(with_reducible refine(Hs.out _).mono ?_;rintro e w9 ⟨rfl,rfl⟩))
 go_quiet (fail)
 go_wp2_with fail
 exact zz65):p:=h
theorem c366 {p:Prop}(h:p:=by
 go_roundw
 case rel=>exact⟨1,rfl,by decide,hid ((((HC.out.drewN _).set_ne (a:=⟨B+1+1,0,none⟩) _ (by show B≠B+1+1;omega)).set_ne (a:=⟨B+1+1,6,none⟩) _ (by show B≠B+1+1;omega)).set_ne (a:=⟨B+1+1,12,none⟩) _ (by show B≠B+1+1;omega)),hid ((((HZ.out.drewN _).set_ne (a:=⟨B+1+1,0,none⟩) _ (by show B+1≠B+1+1;omega)).set_ne (a:=⟨B+1+1,6,none⟩) _ (by show B+1≠B+1+1;omega)).set_ne (a:=⟨B+1+1,12,none⟩) _ (by show B+1≠B+1+1;omega)),hid ((((Hst.out.drewN _).set 0 (I (3))).set 6 (I (s0*4))).set 12 (I (3+s0*4))),hid ((((Hkk.out.drewN _).setCell (p:=⟨B+1+1,0,none⟩) (nb2 B) _).setCell (p:=⟨B+1+1,6,none⟩) (nb2 B) _).setCell (p:=⟨B+1+1,12,none⟩) (nb2 B) _)⟩
 case measure=>exact msA):p:=h
theorem c367 {p:Prop}(h:p:=by
 go_roundw
 case rel=>exact⟨2,rfl,by decide,hid ((((HC.out.drewN _).set_ne (a:=⟨B+1+1,1,none⟩) _ (by show B≠B+1+1;omega)).set_ne (a:=⟨B+1+1,7,none⟩) _ (by show B≠B+1+1;omega)).set_ne (a:=⟨B+1+1,12,none⟩) _ (by show B≠B+1+1;omega)),hid ((((HZ.out.drewN _).set_ne (a:=⟨B+1+1,1,none⟩) _ (by show B+1≠B+1+1;omega)).set_ne (a:=⟨B+1+1,7,none⟩) _ (by show B+1≠B+1+1;omega)).set_ne (a:=⟨B+1+1,12,none⟩) _ (by show B+1≠B+1+1;omega)),hid ((((Hst.out.drewN _).set 1 (I (3+s0*4))).set 7 (I (s1*16))).set 12 (I (3+s0*4+s1*16))),hid ((((Hkk.out.drewN _).setCell (p:=⟨B+1+1,1,none⟩) (nb2 B) _).setCell (p:=⟨B+1+1,7,none⟩) (nb2 B) _).setCell (p:=⟨B+1+1,12,none⟩) (nb2 B) _)⟩
 case measure=>exact msA):p:=h
theorem c368 {p:Prop}(h:p:=by
 go_roundw
 case rel=>exact⟨3,rfl,by decide,hid ((((HC.out.drewN _).set_ne (a:=⟨B+1+1,2,none⟩) _ (by show B≠B+1+1;omega)).set_ne (a:=⟨B+1+1,8,none⟩) _ (by show B≠B+1+1;omega)).set_ne (a:=⟨B+1+1,12,none⟩) _ (by show B≠B+1+1;omega)),hid ((((HZ.out.drewN _).set_ne (a:=⟨B+1+1,2,none⟩) _ (by show B+1≠B+1+1;omega)).set_ne (a:=⟨B+1+1,8,none⟩) _ (by show B+1≠B+1+1;omega)).set_ne (a:=⟨B+1+1,12,none⟩) _ (by show B+1≠B+1+1;omega)),hid ((((Hst.out.drewN _).set 2 (I (3+s0*4+s1*16))).set 8 (I (s2*64))).set 12 (I (3+s0*4+s1*16+s2*64))),hid ((((Hkk.out.drewN _).setCell (p:=⟨B+1+1,2,none⟩) (nb2 B) _).setCell (p:=⟨B+1+1,8,none⟩) (nb2 B) _).setCell (p:=⟨B+1+1,12,none⟩) (nb2 B) _)⟩
 case measure=>exact msA):p:=h
theorem c369 {p:Prop}(h:p:=by
 go_roundw
 case rel=>exact⟨4,rfl,by decide,hid ((((HC.out.drewN _).set_ne (a:=⟨B+1+1,3,none⟩) _ (by show B≠B+1+1;omega)).set_ne (a:=⟨B+1+1,9,none⟩) _ (by show B≠B+1+1;omega)).set_ne (a:=⟨B+1+1,12,none⟩) _ (by show B≠B+1+1;omega)),hid ((((HZ.out.drewN _).set_ne (a:=⟨B+1+1,3,none⟩) _ (by show B+1≠B+1+1;omega)).set_ne (a:=⟨B+1+1,9,none⟩) _ (by show B+1≠B+1+1;omega)).set_ne (a:=⟨B+1+1,12,none⟩) _ (by show B+1≠B+1+1;omega)),hid ((((Hst.out.drewN _).set 3 (I (3+s0*4+s1*16+s2*64))).set 9 (I (s3*256))).set 12 (I (3+s0*4+s1*16+s2*64+s3*256))),hid ((((Hkk.out.drewN _).setCell (p:=⟨B+1+1,3,none⟩) (nb2 B) _).setCell (p:=⟨B+1+1,9,none⟩) (nb2 B) _).setCell (p:=⟨B+1+1,12,none⟩) (nb2 B) _)⟩
 case measure=>exact msA):p:=h
theorem c370 {p:Prop}(h:p:=by
 unfold V6.list at hc1;obtain⟨y0,y1,y2,y3,y4,y5⟩:=hc1.c6;have f0:=hc1.free 0;have f1:=hc1.free 1;have f2:=hc1.free 2;have f3:=hc1.free 3;have f4:=hc1.free 4;have f5:=hc1.free 5;exact zz66):p:=h
theorem c371 {p:Prop}(h:p:=by
 have fg:=ownB_free hP4.own.1 (by omega) (j*4+1)
 have a1:w4.cell? ⟨g,j*4+1,none⟩=some (I 0):=by
  obtain⟨g',e,hc⟩:=own_rec TermM.len4 hP4.own.1 H0.out;injection e with e;injection e with e;subst e
  exact hc 1 _ (by decide) rfl
 have hgB:¬g=B+1:=fun e=>by have:=hP4.lt g (Or.inr rfl);omega
 have hgB':¬B+1=g:=fun e=>hgB e.symm;clear hc1;have HP4:=hid hP4;have HP5:=hid hP5;clear hP4 hP5;dsimp only
 go_wp2_with fail
 go_meet
 case rel=>exact⟨ad,⟨v0,v1,v2,v3,v4,v5⟩,s2,rfl,HrecT,Hu',HP5⟩):p:=h
theorem c372 {p:Prop}(h:p:=by
 clear hP8 hc1;have HP9:=hid hP9;clear hP9;dsimp only at*;refine wpAnyH_ready (rs:=[16]) (by kernel_rfl) (by simp) ?_
 refine AllReadyH.cons (o:=_) rfl (fun K hK=>?_) AllReadyH.nil
 go_simp
 refine hK.out _ _ trivial (fun _=>?_);clear hK K
 (try simp only[Act.put,List.setIfInBounds_toArray,List.set_cons_zero,List.set_cons_succ])
 refine wpAnyH_ready (rs:=[17]) (by kernel_rfl) (by simp) ?_
 refine AllReadyH.cons (o:=_) rfl (fun K hK=>?_) AllReadyH.nil
 go_simp
 refine hK.out _ _ trivial (fun _=>?_);clear hK K
 (try simp only[Act.put,List.setIfInBounds_toArray,List.set_cons_zero,List.set_cons_succ])
 refine wpAnyH_done (by kernel_rfl) ?_ _
 generalize ((((((w7.setCell ⟨g,j*4+2,none⟩ (I t')).setCell ⟨B+1,0,none⟩ (I v0)).setCell ⟨B+1,1,none⟩ (I v1)).setCell ⟨B+1,2,none⟩ (I v2)).setCell ⟨B+1,3,none⟩ (I v3)).setCell ⟨B+1,4,none⟩ (I v4)).setCell ⟨B+1,5,none⟩ (I v5)=WX at*;have hjt:(all.set j ⟨tk,rc,t',tc⟩)[j]? =some ⟨tk,rc,t',tc⟩:=by rw[List.getElem?_set_self hjl]
 have hcc:WX.cell? ⟨g,j*4+1,none⟩=some (I rc)∧WX.cell? ⟨g,j*4+2,none⟩=some (I t'):=by
  obtain⟨g',e,hc⟩:=own_rec TermM.len4 HP9.out.own.1 hjt;injection e with e;injection e with e;subst e
  exact⟨hc 1 _ (by decide) rfl,hc 2 _ (by decide) rfl⟩
 obtain⟨x1,x2⟩:=hcc;clear y0 y1 y2 y3 y4 y5 f0 f1 f2 f3 f4 f5 fg a2 HP7 HP hHeld0 hTr HX HU hjt
 go_upto_region 8 with fail
 have y1:=fun q:KC (fun _=>True) WX=>q.cell trivial x1;have y2:=fun q:KC (fun _=>True) WX=>q.cell trivial x2;refine wp_region_kc_tail (fun _=>True) 9 (by kernel_rfl) (by kernel_rfl) ?_
 simp only[List.take_succ_cons,List.take_zero,List.drop_succ_cons,List.drop_zero]
 repeat(go_big_quiet_step (fail))
 refine wpQuiet_nil ?_;rintro _ ⟨⟨wq,hkq⟩,rfl⟩;have hP10:=HP9.out.keep (HP9.out.rm.keep _ hkq fun _ _ _=>trivial) (hkq.mono fun _ _=>trivial);clear y1 y2 x1 x2 HP9 hkq;have HP10:=hid hP10;clear hP10
 go_wp2_with fail
 refine(dict_setTail HP10.out.rm rc t' Hok2.out).mono ?_;rintro e w8 ⟨rfl,hr8,hk8⟩;have hP11:=HP10.out.keep hr8 hk8;clear hr8 hk8 HP10;have hc1:=hP11.b1;unfold V6.list at hc1;obtain⟨y0,y1,y2,y3,y4,y5⟩:=hc1.c6;have hc3:=hP11.b3;unfold V6.list zero6 at hc3;dsimp only at hc3;obtain⟨z0,z1,z2,z3,z4,z5⟩:=hc3.c6;have f3:=hc3.free;clear hc1;have hKB:¬K (B+1+1+1):=fun hk=>by have:=hP11.lt _ (Or.inl hk);omega
 have HP11:=hid hP11;have Hc3:=hid hc3;have HKB:=hid hKB;clear hP11 hc3 hKB
 go_wp2_with fail
 have hE:=Hc3.out.set6 (I v0) (I v1) (I v2) (I v3) (I v4) (I v5) rfl;have hP:=HP11.out;have hE0:=hP.h0;have hgB:¬g=B+1+1+1:=fun e=>by have:=hP.lt g (Or.inr rfl);omega
 have hon:=ownsRow_set6 hP.own.1 (b:=B+1+1+1) (fun e=>by injection e with e;exact hgB e) (I v0) (I v1) (I v2) (I v3) (I v4) (I v5)
 have hkk:=hP.kp.set6 (I v0) (I v1) (I v2) (I v3) (I v4) (I v5) HKB.out;have hrr:=hP.rm.set6 (b:=B+1+1+1) (I v0) (I v1) (I v2) (I v3) (I v4) (I v5) (Or.inr (by omega))
 have hown2:=hP.own.2;have hlen:=hP.len;clear hP z0 z1 z2 z3 z4 z5 f3 Hc3;generalize ((((((w8.setCell ⟨B+1+1+1,0,none⟩ (I v0)).setCell ⟨B+1+1+1,1,none⟩ (I v1)).setCell ⟨B+1+1+1,2,none⟩ (I v2)).setCell ⟨B+1+1+1,3,none⟩ (I v3)).setCell ⟨B+1+1+1,4,none⟩ (I v4)).setCell ⟨B+1+1+1,5,none⟩ (I v5))=WF at*;obtain⟨d0,d1,d2,d3,d4,d5⟩:=hE.c6;refine bodyPost_ret (v:= .agg #[I v0,I v1,I v2,I v3,I v4,I v5]) ?_ rfl ?_
 ·simp[results,Tryz.results55,go_sem,d0,d1,d2,d3,d4,d5]
 ·refine hR'.out _ _ ?_;rw[←Hres7.out];rw[hlen]at hon;exact⟨rfl,hrr.mono fun b hb=>Or.inl hb,⟨(show WF.ownsRow 0 154 4 (.slice (some ⟨g,0,none⟩) all.length cp) (all.set j ⟨tk,rc,t',tc⟩).length ((all.set j ⟨tk,rc,t',tc⟩).flatMap TermM.cells)from by rw[hlen];exact hon),by rw[hlen]at hown2;exact hown2⟩,hkk⟩):p:=h
theorem c373 {p:Prop}(h:p:=by
 obtain⟨d0,d1,d2,d3,d4,d5⟩:=hD0.c6;obtain⟨p0,p1,p2,p3,p4,p5,p6,p7,p8,p9,p10,p11,p12,p13,p14⟩:=hD1.c15;have f1:=hD1.free
 go_wp2_with fail
 exact zz67):p:=h
theorem c374 {p:Prop}(h:p:=by
 go_roundw
 case rel=>
  refine⟨1,by omega,rfl,congrArg (Value.int .i64) (by simp only[baseC,szC]<;>omega),?_,?_,?_,?_,?_⟩
  ·exact bA
  ·exact bA
  ·have hx:=hD1.set 0 (I (3));exact c30
  ·exact bA
  ·exact kA
 case measure=>simp[intOf]):p:=h
theorem c375 {p:Prop}(h:p:=by
 go_roundw
 case rel=>
  refine⟨2,by omega,rfl,congrArg (Value.int .i64) (by simp only[baseC,szC]<;>omega),?_,?_,?_,?_,?_⟩
  ·exact bA
  ·exact bA
  ·have hx:=hD1.set 1 (I (3+4*s0));exact c30
  ·exact bA
  ·exact kA
 case measure=>simp[intOf]):p:=h
theorem c376 {p:Prop}(h:p:=by
 go_roundw
 case rel=>
  refine⟨3,by omega,rfl,congrArg (Value.int .i64) (by simp only[baseC,szC]<;>omega),?_,?_,?_,?_,?_⟩
  ·exact bA
  ·exact bA
  ·have hx:=hD1.set 2 (I (3+4*s0+16*s1));exact c30
  ·exact bA
  ·exact kA
 case measure=>simp[intOf]):p:=h
theorem c377 {p:Prop}(h:p:=by
 go_roundw
 case rel=>
  refine⟨4,by omega,rfl,congrArg (Value.int .i64) (by simp only[baseC,szC]<;>omega),?_,?_,?_,?_,?_⟩
  ·exact bA
  ·exact bA
  ·have hx:=hD1.set 3 (I (3+4*s0+16*s1+64*s2));exact c30
  ·exact bA
  ·exact kA
 case measure=>simp[intOf]):p:=h
theorem c378 {p:Prop}(h:p:=by
 go_roundw
 case rel=>
  refine⟨5,by omega,rfl,congrArg (Value.int .i64) (by simp only[baseC,szC]<;>omega),?_,?_,?_,?_,?_⟩
  ·exact bA
  ·exact bA
  ·have hx:=hD1.set 4 (I (3+4*s0+16*s1+64*s2+256*s3));exact c30
  ·exact bA
  ·exact kA
 case measure=>simp[intOf]):p:=h
theorem c379 {p:Prop}(h:p:=by
 go_roundw
 case rel=>
  refine⟨6,by omega,rfl,congrArg (Value.int .i64) (by simp only[baseC,szC]<;>omega),?_,?_,?_,?_,?_⟩
  ·exact bA
  ·exact bA
  ·have hx:=hD1.set 5 (I (3+4*s0+16*s1+64*s2+256*s3+book));exact c30
  ·exact bA
  ·exact kA
 case measure=>simp[intOf]):p:=h
theorem c380 {p:Prop}(h:p:=by
 have e0:0≤((ho:Int)+k)%n:=Int.emod_nonneg _ (by omega)
 have e1:((ho:Int)+k)%n<n:=Int.emod_lt_of_pos _ (by omega)
 exact zz68):p:=h
theorem c381 {p:Prop}(h:p:=by
 have Hex:=hid hex;clear hex;clear e
 go_wp2_with fail
 have hsl:((ho:Int)+k)%n=(((ho+k)%n:Nat):Int):=by rw[Int.natCast_emod,Int.natCast_add]
 generalize ((ho:Int)+k)%n=sl at*;refine(step_load HR.out (s0+sl)).mono ?_;rintro e w3 ⟨rfl,hr3,hk3⟩;have hu3:=HR.out.load_u32 (s0+sl);generalize hls:s'.load (s0+sl)=ls at*;obtain⟨x,s1⟩:=ls;simp only at hr3 hu3;obtain⟨u0,u1⟩:=hu3;rw[hsl]at hls;have hk3':=HK.out.trans hk3;have Hls:=hid hls;have Hr3:=hid hr3;have Hk3':=hid hk3';have Hsl:=hid hsl;clear hls hr3 hk3' hsl
 clear hk3
 go_wp2_with fail
 refine(step_off Hr3.out).mono ?_;rintro e w4 ⟨rfl,rfl⟩
 cases hoff:s1.isOff with
 |true=>
  have hfin:=Hex.out;rw[findD_off Hls.out hoff]at hfin;have Hfin:=hid hfin;have Hoff:=hid hoff;clear hfin hoff
  go_wp2_with fail
  refine hR'.out _ _ ⟨by rw[←Hfin.out];rfl,by rw[←Hfin.out];exact Hr3.out.mono HKK.out,Hkw.out.trans (Hk3'.out.mono HKK.out)⟩
 |false=>
  by_cases hx:x=0
  ·subst hx;have hfin:=Hex.out;rw[findD_zero Hls.out hoff]at hfin;have Hfin:=hid hfin;have Hoff:=hid hoff;clear hfin hoff
   go_wp2_with fail
   refine hR'.out _ _ ⟨by rw[←Hfin.out,Hsl.out];rfl,by rw[←Hfin.out];exact Hr3.out.mono HKK.out,Hkw.out.trans (Hk3'.out.mono HKK.out)⟩
  ·have hb:(x==0)=false:=by simpa using hx
   have Hx:=hid hx;have Hoff:=hid hoff;clear hx hoff
   go_wp2_with fail
   refine(step_load Hr3.out _).mono ?_;rintro e w5 ⟨rfl,hr5,hk5⟩;have hu5:=Hr3.out.load_u32 (x+1);generalize hls5:s1.load (x+1)=ls at*;obtain⟨y,s2⟩:=ls;simp only at hr5 hu5;obtain⟨v0,v1⟩:=hu5;have hk5':=Hk3'.out.trans hk5;have Hls5:=hid hls5;have Hr5:=hid hr5;have Hk5':=hid hk5';clear hls5 hr5 hk5';clear hk5
   by_cases hy:y=t.size
   ·have hnx:=Hex.out;subst hy;rw[findD_cmp Hls.out Hoff.out Hx.out Hls5.out]at hnx;have Hnx:=hid hnx;clear hnx
    go_wp2_with fail
    go_loopw[61] (fun j wr2=>∃(q:Nat) (s3:St),j=I q∧q≤(t.size+3)/4∧RM wr2 K1 r m c s3∧Keeps K1 w1 wr2∧
     ((cmpD x (C.drop q) q).bind (contD s0 n ho C t.size (n-(k+1)) k x)).exec s3=res) (fun j _=>(t.size+3)/4-(intOf j).toNat)
    case atStart=>exact⟨0,s2,rfl,Nat.zero_le _,Hr5.out,Hk5'.out,by rw[List.drop_zero];exact Hnx.out⟩
    case round=>
     obtain⟨q,s3,rfl,hq,hR3,hK3,hex3⟩:=hrel;have HR3:=hid hR3;have HK3:=hid hK3;clear hR3 hK3;clear Hnx Hr5 Hk5' Hex Hls Hls5 HR HK Hr3 Hk3'
     by_cases hqlt:q<(t.size+3)/4
     ·have hCq:q<C.length:=by rw[Hpl.out];exact hqlt
      have hd:C.drop q=C[q]::C.drop (q+1):=List.drop_eq_getElem_cons hCq;have hcell:wr.cell? ⟨b1,q,none⟩=some (J C[q]):=by
       rw[World.cell?_of_block (a:=⟨b1,q,none⟩) (HK3.out.block b1 Hb1K.out),HB1.out.cell,HC.out,List.getElem?_map,List.getElem?_eq_getElem hCq];rfl
      have zz133:=@c661;exact c659
     ·have hqn:C.drop q=[]:=List.drop_of_length_le (by rw[Hpl.out];omega)
      rw[hqn]at hex3;have hfin:((x,(((ho+k)%n:Nat):Int)),s3)=res:=hex3;clear hex3 hqn;have Hfin:=hid hfin;clear hfin
      go_wp2_with fail
      refine hR'.out _ _ ⟨by rw[←Hfin.out,Hsl.out];rfl,by rw[←Hfin.out];exact HR3.out.mono HKK.out,Hkw.out.trans (HK3.out.mono HKK.out)⟩
   ·have hby:(y !=(t.size:Int))=true:=by simpa using hy
    have hnx:=Hex.out;rw[findD_len Hls.out Hoff.out Hx.out Hls5.out hy]at hnx;have Hnx:=hid hnx;have Hy:=hid hy;clear hnx hy
    go_wp2_with fail
    go_roundw
    case rel=>exact⟨k+1,s2,by go_num,by omega,Hr5.out,Hk5'.out,Hnx.out⟩
    case measure=>simp[intOf];omega):p:=h
theorem c382 {p:Prop}(h:p:=by
 have hslw:=Hsl.out.keep HK.out Hb.out;have hsz:=HK.out.size;have hbw:∀b,K b→b<wr.heap.size:=fun b h=>Nat.lt_of_lt_of_le (Hb.out b h) hsz;have Hex:=hid hex;have Hslw:=hid hslw;have Hbw:=hid hbw;clear hex hslw hbw;clear HE
 go_wp2_with fail
 have hsl:((ho:Int)+k)%n=(((ho+k)%n:Nat):Int):=by rw[Int.natCast_emod,Int.natCast_add]
 have hex:=Hex.out;rw[←hsl]at hex;generalize ((ho:Int)+k)%n=sl at*;clear hsl Hex;have h1:=Hat.out wr Hslw.out (s0+sl);have hu1:=Hau.out (s0+sl);generalize atL cs (s0+sl)=x1 at*;obtain⟨x,ok⟩:=x1;dsimp only at hex h1 hu1;have h2:=His.out wr Hbw.out Hslw.out x hu1;obtain⟨hx0,hx1⟩:=hu1;have Hex:=hid hex;have H1:=hid h1;have H2:=hid h2;clear hex h1 h2;refine H1.out.mono ?_
 rintro e w3 ⟨rfl,rfl⟩
 cases ok with
 |false=>
  have hr:res=(0,0,false):=by rw[Hex.out];rfl
  have Hr:=hid hr;clear hr
  go_wp2_with fail
  refine hR'.out _ _ ⟨?_,HK.out⟩;exact c66
 |true=>
  by_cases hx:x=0
  ·subst hx;have hr:res=(0,sl,true):=by rw[Hex.out];rfl
   have Hr:=hid hr;clear hr;clear Hex
   go_wp2_with fail
   refine hR'.out _ _ ⟨?_,HK.out⟩;exact c66
  ·have hxb:(x==0)=false:=by simp[hx]
   have hex:=Hex.out;rw[if_neg (by decide),if_neg hx]at hex
   generalize isL cs x key=q at*;obtain⟨qf,qt⟩:=q;dsimp only at hex;have h2:=H2.out;dsimp only at h2;clear hx Hex H2;have Hex:=hid hex;have H2:=hid h2;clear hex h2
   go_wp2_with fail
   refine H2.out.mono ?_;rintro e w5 ⟨rfl,hk5⟩;have hK5:=HK.out.trans (hk5.mono fun b hb=>Nat.lt_of_lt_of_le hb hsz);clear hk5;have HK5:=hid hK5;clear hK5
   cases qt with
   |false=>
    have hr:res=(0,0,false):=by rw[Hex.out];rfl
    have Hr:=hid hr;clear hr
    go_wp2_with fail
    refine hR'.out _ _ ⟨?_,HK5.out⟩;exact c66
   |true=>
    cases qf with
    |true=>
     have hr:res=(x,sl,true):=by rw[Hex.out];rfl
     have Hr:=hid hr;clear hr
     go_wp2_with fail
     refine hR'.out _ _ ⟨?_,HK5.out⟩;exact c66
    |false=>
     have hr:res=findL cs s0 n ho key (n-(k+1)) (k+1):=by rw[Hex.out];rfl
     have Hr:=hid hr;clear hr
     go_wp2_with fail
     go_roundw
     case rel=>exact⟨k+1,by go_num,by omega,Hr,HK5⟩
     case measure=>exact msA):p:=h
theorem c383 {p:Prop}(h:p:=by
 obtain⟨y0,y1,y2,y3,y4,y5⟩:=hm.c6;clear hm HM HK;have Hst:=hid hst;have Hkk:=hid hkk;clear hst hkk
 go_wp2_with fail
 exact zz69):p:=h
theorem c384 {p:Prop}(h:p:=by
 go_roundw
 case rel=>exact⟨1,rfl,by decide,hid Hst.out,Hkk,by simpa using hsx⟩
 case measure=>exact msA):p:=h
theorem c385 {p:Prop}(h:p:=by
 go_roundw
 case rel=>exact⟨2,rfl,by decide,hid Hst.out,Hkk,by simpa using hsx⟩
 case measure=>exact msA):p:=h
theorem c386 {p:Prop}(h:p:=by
 go_roundw
 case rel=>exact⟨3,rfl,by decide,hid Hst.out,Hkk,by simpa using hsx⟩
 case measure=>exact msA):p:=h
theorem c387 {p:Prop}(h:p:=by
 go_roundw
 case rel=>exact⟨4,rfl,by decide,hid Hst.out,Hkk,by simpa using hsx⟩
 case measure=>exact msA):p:=h
theorem c388 {p:Prop}(h:p:=by
 go_roundw
 case rel=>exact⟨6,rfl,by decide,hid Hst.out,Hkk,by simpa using hsx⟩
 case measure=>exact msA):p:=h
theorem c389 {p:Prop}(h:p:=by
 go_roundw
 case rel=>exact⟨5,rfl,by decide,hid Hst.out,Hkk,by simpa using hsx⟩
 case measure=>exact msA):p:=h
theorem c390 {p:Prop}(h:p:=by
 have hBf:=hB0;unfold PlanM.flat at hBf;obtain⟨p0,p1,p2,p3,p4,p5,p6,p7,p8,p9,p10,p11,p12,p13,p14⟩:=hBf.c15;exact zz70):p:=h
theorem c391 {p:Prop}(h:p:=by
 clear hBf
 go_wp2_with fail
 refine(hcl w1 HTB.out.1).mono ?_;rintro e w2 ⟨rfl,hk2⟩;have hB0':=hB0.keep hk2 hB0.lt;have hB1':=hB1.keep hk2 hB1.lt;have hB2':=hB2.keep hk2 hB2.lt;have hkw':=hkw.trans (hk2.mono fun b hb=>by have:=HTB.out.2;omega)
 have HTC:=hid (show PTab w2∧B+1+1<w2.heap.size∧0<B from⟨HTB.out.1.keep hk2 (by have:=HTB.out.2;omega),hB2'.lt,HTB.out.2.2⟩)
 clear hB0 hB1 hB2 hkw hk2 HTB hB0' hcl p0 p1 p2 p3 p4 p5 p6 p7 p8 p9 p10 p11 p12 p13 p14
 go_wp2_with fail
 refine(slab_call k HKK.out w2 HTC.out.1).mono ?_;rintro e w5 ⟨rfl,hw5⟩;subst hw5;have hszb:=szK_bd k;have HSZ:=hid (szK_bd k);generalize szK k=S at*;obtain⟨R0,hR0⟩:∃R0,R0=S-1-c2:=⟨_,rfl⟩;obtain⟨K0,hK0⟩:∃K0:Nat,K0=min (k+1) 3:=⟨_,rfl⟩;rw[←hR0,←hK0]at hR';have hc0:=HC0.out;have hc1:=HC1.out;have hkk:=HKK.out;have gs1:IntKind.i64.wrap (S-1)=S-1:=IntWalk.i64_in _ (by omega)
 have gs2:IntKind.i64.wrap (S-1-c2)=R0:=by rw[hR0];exact IntWalk.i64_in _ (by omega)
 have gk1:IntKind.i64.wrap ((k:Int)+1)=(k:Int)+1:=IntWalk.i64_in _ (by omega)
 have HKM:=hid hK0;have HR0:=hid (show 0≤R0∧R0≤256∧K0≤3 from by omega)
 clear hR0 hK0 hc0 hc1 hkk hszb HC0 HC1 HKK HSZ
 go_wp2_with fail
 all_goals clear gs1 gs2 gk1
 all_goals
  have hB1:=hB1';have hB2:=hB2';have hkw:=hkw';clear hB1' hB2' hkw'
 case inr=>
  exact c3
 case inl=>
  exact c3):p:=h
theorem c392 {p:Prop}(h:p:=by
 clear hBf h0 hc1 hmk hk
 go_wp2_with fail
 refine(HCL.out w1).mono ?_;rintro e w2 ⟨rfl,hk2⟩;have hB1':=hB1.keep hk2 hB1.lt;have hB2':=hB2.keep hk2 hB2.lt;have hkw':=hkw.trans (hk2.mono fun b hb=>by have:=hB1.lt;omega)
 clear hB0 hB1 hB2 hkw hk2 p0 p1 p2 p3 p4 p5 p6 p7 p8 p9 p10 p11 p12 p13 p14
 go_wp2_with fail
 refine(slab_ref k HKK.out w2).mono ?_;rintro e w5 ⟨rfl,hw5⟩;subst hw5;have hsz:((4^(k+1):Nat):Int)=szK k:=by
  have:=HKK.out;have hk4:k=0∨k=1∨k=2∨k=3:=by omega
  rcases hk4 with rfl|rfl|rfl|rfl<;>rfl
 rw[hsz];have hszb:=szK_bd k;clear hsz;generalize szK k=S at*;obtain⟨R0,hR0⟩:∃R0:Nat,R0=(S-1-c2).toNat:=⟨_,rfl⟩;obtain⟨K0,hK0⟩:∃K0:Nat,K0=min (k+1) 3:=⟨_,rfl⟩;rw[←hR0,←hK0]at hR';have hmk:=HMK.out;have hkk:=HKK.out;have gs1:IntKind.i64.wrap (S-1)=S-1:=IntWalk.i64_in _ (by omega)
 have gs2:IntKind.i64.wrap (S-1-c2)=(R0:Int):=by rw[hR0,Int.toNat_of_nonneg (by omega)];exact IntWalk.i64_in _ (by omega)
 have gk1:IntKind.i64.wrap ((k:Int)+1)=(k:Int)+1:=IntWalk.i64_in _ (by omega)
 have HRK:=hid (show 0≤R0∧R0≤256∧K0≤3∧K0=min (k+1) 3 from by omega)
 clear hR0 hK0 hmk hkk hszb HMK HKK
 go_wp2_with fail
 all_goals clear gs1 gs2 gk1
 all_goals
  have hB1:=hB1';have hB2:=hB2';have hkw:=hkw';clear hB1' hB2' hkw'
 case inr=>
  exact c4
 case inl=>
  exact c4):p:=h
theorem c393 {p:Prop}(h:p:=by
 have HHP:=hid hHP;clear hHP;obtain⟨hb0',hb1'⟩:=hbk;obtain⟨hs0',hs1'⟩:=hsk;have HHS:=hid hhas;clear hhas hblk;exact zz71):p:=h
theorem c394 {p:Prop}(h:p:=by
 by_cases h1:X≤a
 ·have g1:a≥X:=h1;have g2:IntKind.i64.wrap (a-X)=a-X:=IntWalk.i64_in _ (by omega)
  by_cases h2:a-X<Y
  ·have g3:decide (a-X<Y)=true:=decide_eq_true h2;have g4:0≤a-X:=by omega
   have g5:(a-X).tmod 4=(a-X)%4:=Int.tmod_eq_emod_of_nonneg g4;exact c50
  ·have g3:decide (a-X<Y)=false:=decide_eq_false h2;have HE:=hid (fun h=>h2 (HHS.out.1 h).2);clear h2;exact c81
 ·have g1:¬a≥X:=h1;have g1':decide (a≥X)=false:=decide_eq_false h1;have HE:=hid (fun h=>h1 (HHS.out.1 h).1);clear h1;exact c81):p:=h
theorem c395 {p:Prop}(h:p:=by
 by_cases h1:X≤a
 ·have g1:a≥X:=h1;have g2:IntKind.i64.wrap (a-X)=a-X:=IntWalk.i64_in _ (by omega)
  by_cases h2:a-X<Y
  ·have g3:decide (a-X<Y)=true:=decide_eq_true h2;have g4:0≤a-X:=by omega
   have g5:(a-X).tmod 16=(a-X)%16:=Int.tmod_eq_emod_of_nonneg g4;exact c50
  ·have g3:decide (a-X<Y)=false:=decide_eq_false h2;have HE:=hid (fun h=>h2 (HHS.out.1 h).2);clear h2;exact c82
 ·have g1:¬a≥X:=h1;have g1':decide (a≥X)=false:=decide_eq_false h1;have HE:=hid (fun h=>h1 (HHS.out.1 h).1);clear h1;exact c82):p:=h
theorem c396 {p:Prop}(h:p:=by
 by_cases h1:X≤a
 ·have g1:a≥X:=h1;have g2:IntKind.i64.wrap (a-X)=a-X:=IntWalk.i64_in _ (by omega)
  by_cases h2:a-X<Y
  ·have g3:decide (a-X<Y)=true:=decide_eq_true h2;have g4:0≤a-X:=by omega
   have g5:(a-X).tmod 64=(a-X)%64:=Int.tmod_eq_emod_of_nonneg g4;exact c50
  ·have g3:decide (a-X<Y)=false:=decide_eq_false h2;have HE:=hid (fun h=>h2 (HHS.out.1 h).2);clear h2;exact c83
 ·have g1:¬a≥X:=h1;have g1':decide (a≥X)=false:=decide_eq_false h1;have HE:=hid (fun h=>h1 (HHS.out.1 h).1);clear h1;exact c83):p:=h
theorem c397 {p:Prop}(h:p:=by
 by_cases h1:X≤a
 ·have g1:a≥X:=h1;have g2:IntKind.i64.wrap (a-X)=a-X:=IntWalk.i64_in _ (by omega)
  by_cases h2:a-X<Y
  ·have g3:decide (a-X<Y)=true:=decide_eq_true h2;have g4:0≤a-X:=by omega
   have g5:(a-X).tmod 256=(a-X)%256:=Int.tmod_eq_emod_of_nonneg g4;exact c50
  ·have g3:decide (a-X<Y)=false:=decide_eq_false h2;have HE:=hid (fun h=>h2 (HHS.out.1 h).2);clear h2;exact c84
 ·have g1:¬a≥X:=h1;have g1':decide (a≥X)=false:=decide_eq_false h1;have HE:=hid (fun h=>h1 (HHS.out.1 h).1);clear h1;exact c84):p:=h
theorem c398 {p:Prop}(h:p:=by
 have HBK:=hid hblk;have Hkp:=hid hkp;clear hkp;clear hz hblk hsl hlt
 go_wp2_with fail
 go_quiet (fail)
 go_wp2_with fail
 exact zz72):p:=h
theorem c399 {p:Prop}(h:p:=by
 go_roundw
 case rel=>
  refine⟨1,by first|rfl|go_num,by omega,hid ⟨?_,?_,fun j hj=>?_⟩⟩
  ·exact c33
  ·exact c11
  ·by_cases e:j<0
   ·exact Hno.out j e
   ·obtain rfl:j=0:=by omega
    exact HE.out
 case measure=>simp[intOf]):p:=h
theorem c400 {p:Prop}(h:p:=by
 go_roundw
 case rel=>
  refine⟨2,by first|rfl|go_num,by omega,hid ⟨?_,?_,fun j hj=>?_⟩⟩
  ·exact c33
  ·exact c11
  ·by_cases e:j<1
   ·exact Hno.out j e
   ·obtain rfl:j=1:=by omega
    exact HE.out
 case measure=>simp[intOf]):p:=h
theorem c401 {p:Prop}(h:p:=by
 go_roundw
 case rel=>
  refine⟨3,by first|rfl|go_num,by omega,hid ⟨?_,?_,fun j hj=>?_⟩⟩
  ·exact c33
  ·exact c11
  ·by_cases e:j<2
   ·exact Hno.out j e
   ·obtain rfl:j=2:=by omega
    exact HE.out
 case measure=>simp[intOf]):p:=h
theorem c402 {p:Prop}(h:p:=by
 go_roundw
 case rel=>
  refine⟨4,by first|rfl|go_num,by omega,hid ⟨?_,?_,fun j hj=>?_⟩⟩
  ·exact c33
  ·exact c11
  ·by_cases e:j<3
   ·exact Hno.out j e
   ·obtain rfl:j=3:=by omega
    exact HE.out
 case measure=>simp[intOf]):p:=h
theorem c403 {p:Prop}(h:p:=by
 have H4:Hid (¬(1040≤r∧r≤1071)):=hid (fun g=>absurd (hb.2 g) (by decide))
 clear hb
 go_wp2_with fail
 exact zz73):p:=h
theorem c404 {p:Prop}(h:p:=by
 refine(ref5_in r 256 311 w).mono ?_;rintro e w2 ⟨b,rfl,hb,rfl⟩
 cases b with
 |true=>
  have H5:Hid ((256≤r∧r≤311)):=hid (hb.1 rfl);exact c96
 |false=>
  have H5:Hid (¬(256≤r∧r≤311)):=hid (fun g=>absurd (hb.2 g) (by decide))
  clear hb
  go_wp2_with fail
  refine(ref5_in r 330 375 w).mono ?_;rintro e w2 ⟨b,rfl,hb,rfl⟩
  cases b with
  |true=>
   have H6:Hid ((330≤r∧r≤375)):=hid (hb.1 rfl);exact c69
  |false=>
   have H6:Hid (¬(330≤r∧r≤375)):=hid (fun g=>absurd (hb.2 g) (by decide))
   clear hb
   go_wp2_with fail
   refine(ref5_in r 1120 1153 w).mono ?_;rintro e w2 ⟨b,rfl,hb,rfl⟩
   cases b with
   |true=>
    have H7:Hid ((1120≤r∧r≤1153)):=hid (hb.1 rfl);exact c52
   |false=>
    have H7:Hid (¬(1120≤r∧r≤1153)):=hid (fun g=>absurd (hb.2 g) (by decide))
    clear hb
    go_wp2_with fail
    refine(ref5_in r 1162 1215 w).mono ?_;rintro e w2 ⟨b,rfl,hb,rfl⟩
    cases b with
    |true=>
     have H8:Hid ((1162≤r∧r≤1215)):=hid (hb.1 rfl);exact c48
    |false=>
     have H8:Hid (¬(1162≤r∧r≤1215)):=hid (fun g=>absurd (hb.2 g) (by decide))
     clear hb
     go_wp2_with fail
     refine(ref5_in r 1232 1327 w).mono ?_;rintro e w2 ⟨b,rfl,hb,rfl⟩
     cases b with
     |true=>
      have H9:Hid ((1232≤r∧r≤1327)):=hid (hb.1 rfl);exact c45
     |false=>
      have H9:Hid (¬(1232≤r∧r≤1327)):=hid (fun g=>absurd (hb.2 g) (by decide))
      clear hb
      go_wp2_with fail
      refine(ref5_in r 313 328 w).mono ?_;rintro e w2 ⟨b,rfl,hb,rfl⟩
      cases b with
      |true=>
       have H10:Hid ((313≤r∧r≤328)):=hid (hb.1 rfl);exact c40
      |false=>
       have H10:Hid (¬(313≤r∧r≤328)):=hid (fun g=>absurd (hb.2 g) (by decide))
       clear hb
       go_wp2_with fail
       refine(ref5_in r 377 382 w).mono ?_;rintro e w2 ⟨b,rfl,hb,rfl⟩
       cases b with
       |true=>
        have H11:Hid ((377≤r∧r≤382)):=hid (hb.1 rfl);exact c49
       |false=>
        have H11:Hid (¬(377≤r∧r≤382)):=hid (fun g=>absurd (hb.2 g) (by decide))
        clear hb;exact c2):p:=h
theorem c405 {p:Prop}(h:p:=by
 exact c404):p:=h
theorem c406 {p:Prop}(h:p:=by
 have Hkp:=hid hkp;clear hkp;clear hz hblk hsl h2
 go_wp2_with fail
 go_quiet (fail)
 go_wp2_with fail
 exact zz74):p:=h
theorem c407 {p:Prop}(h:p:=by
 refine(slab_at0 _).mono ?_;exact c445):p:=h
theorem c408 {p:Prop}(h:p:=by
 refine(slab_at1 _).mono ?_;exact c445):p:=h
theorem c409 {p:Prop}(h:p:=by
 refine(slab_at2 _).mono ?_;exact c445):p:=h
theorem c410 {p:Prop}(h:p:=by
 refine(slab_at3 _).mono ?_;exact c445):p:=h
theorem c411 {p:Prop}(h:p:=by
 go_region_held3 (fun w'=>w'.cell? ⟨B+1+1,0,none⟩=some (I p.base.a0)∧w'.cell? ⟨B+1+1,1,none⟩=some (I p.base.a1)∧w'.cell? ⟨B+1+1,2,none⟩=some (I p.base.a2)∧w'.cell? ⟨B+1+1,3,none⟩=some (I p.base.a3)∧w'.cell? ⟨B+1+1,4,none⟩=some (I p.base.a4)∧w'.cell? ⟨B+1+1,5,none⟩=some (I p.base.a5)∧w'.cell? ⟨B+1+1,6,none⟩=some (I p.size.a0)∧w'.cell? ⟨B+1+1,7,none⟩=some (I p.size.a1)∧w'.cell? ⟨B+1+1,8,none⟩=some (I p.size.a2)∧w'.cell? ⟨B+1+1,9,none⟩=some (I p.size.a3)∧w'.cell? ⟨B+1+1,10,none⟩=some (I p.size.a4)∧w'.cell? ⟨B+1+1,11,none⟩=some (I p.size.a5)∧w'.cell? ⟨B+1+1,12,none⟩=some (I p.cells)∧w'.cell? ⟨B+1+1,13,none⟩=some (I p.slots)∧w'.cell? ⟨B+1+1,14,none⟩=some (I p.live)∧w'.cell? ⟨nb,no+i,none⟩=some (I yc)) (go_keep)
  (first
   |(go_at_call 63;refine(HTA.out _ ?_ ?_).mono ?_;(focus((repeat(first|with_reducible exact Blk.new _ _ _|with_reducible refine Blk.drew ?_|with_reducible refine Blk.drewN ?_ _|(with_reducible refine Blk.new' _ _ _ ?_;focus(simp;done))));done));(focus((repeat(first|with_reducible exact Keeps.refl _ _|with_reducible refine Keeps.drew ?_|with_reducible refine Keeps.drewN ?_ _|with_reducible refine Keeps.alloc ?_ ?_ _));all_goals(intro b hb;exact hb)));rintro e wb ⟨rfl,HBW,⟨zc0,zc1,zc2,zc3,zc4,zc5,zf0,zf1,zf2,zf3,zf4,zf5⟩,⟨q0,q1,q2,q3,q4,q5,q6,q7,q8,q9,q10,q11,q12,q13,q14,q15⟩,qa,qb⟩)
   |(go_at_call 63;refine(HTB.out _ ?_).mono ?_;(focus((repeat(first|with_reducible exact Keeps.refl _ _|with_reducible refine Keeps.drew ?_|with_reducible refine Keeps.drewN ?_ _|with_reducible refine Keeps.alloc ?_ ?_ _));all_goals(intro b hb;exact hb)));rintro e wb ⟨rfl,HBW,⟨q0,q1,q2,q3,q4,q5,q6,q7,q8,q9,q10,q11,q12,q13,q14,q15⟩,qa,qb⟩))
 all_goals
  go_wp2_with fail
  go_meet
  case rel=>
   refine⟨_,rfl,?_,?_,?_⟩
   ·first|with_reducible exact Nat.le_refl _|with_reducible exact HBW.out.size|with_reducible exact HBW.out.2.size
   ·repeat(first|with_reducible exact Blk.new _ _ _|with_reducible exact HBW.out.1.set6 _ _ _ _ _ _ rfl|with_reducible refine Blk.drew ?_)
   ·repeat(first|with_reducible exact HBW.out|with_reducible exact HBW.out.2|with_reducible refine Keeps.drew ?_|with_reducible refine Keeps.setCell ?_ ?_ _|with_reducible refine Keeps.alloc ?_ ?_ _)
    all_goals first|(intro b hb;have:=HBW.out.size;omega)|(intro b hb;have:=HBW.out.2.size;omega)|simp):p:=h
theorem c412 {p:Prop}(h:p:=by
 clear hb;exact absurd True.intro (by have q0:=H0.out ;have q1:=H1.out ;have q2:=H2.out ;have q3:=H3.out ;have q4:=H4.out ;have q5:=H5.out ;have q6:=H6.out ;have q7:=H7.out ;have q8:=H8.out ;have q9:=H9.out ;have q10:=H10.out ;have q11:=H11.out ;have q12:=H12.out ;have q13:=H13.out ;have q14:=H14.out ;have q15:=H15.out ;have q16:=H16.out ;have q17:=H17.out ;have q18:=H18.out ;omega)):p:=h
theorem c413 {p:Prop}(h:p:=by
 generalize p.size.g6 0=S at*;generalize u.g6 0=U at*;generalize m.g6 0=M at*;have zz122:=@c612;exact c611):p:=h
theorem c414 {p:Prop}(h:p:=by
 generalize p.size.g6 1=S at*;generalize u.g6 1=U at*;generalize m.g6 1=M at*;have zz122:=@c613;exact c611):p:=h
theorem c415 {p:Prop}(h:p:=by
 generalize p.size.g6 2=S at*;generalize u.g6 2=U at*;generalize m.g6 2=M at*;have zz122:=@c614;exact c611):p:=h
theorem c416 {p:Prop}(h:p:=by
 generalize p.size.g6 3=S at*;generalize u.g6 3=U at*;generalize m.g6 3=M at*;have zz122:=@c615;exact c611):p:=h
theorem c417 {p:Prop}(h:p:=by
 generalize p.size.g6 4=S at*;generalize u.g6 4=U at*;generalize m.g6 4=M at*;have zz122:=@c616;exact c611):p:=h
theorem c418 {p:Prop}(h:p:=by
 generalize p.size.g6 5=S at*;generalize u.g6 5=U at*;generalize m.g6 5=M at*;have zz122:=@c617;exact c611):p:=h
theorem c419 {p:Prop}(h:p:=by
 have zz118:=@c592;exact c590):p:=h
theorem c420 {p:Prop}(h:p:=by
 obtain⟨hT3,hB3,hK3⟩:=HW;refine(show Calls Tryz.prog 105 #[I ((3:Nat):Int)] W (fun e w'=>e= .returned (I 256)∧w'=W)from slab_call 3 (by omega) W hT3).mono ?_
 rintro e w3 ⟨rfl,rfl⟩;have HB3:=hid hB3;have HK3:=hid hK3;clear hT3 hB3 hK3 HS
 go_wp2_with fail
 go_roundw
 case rel=>exact⟨f,n'-r',256-1,3,o.up 3 256,by first|rfl|go_num,by first|rfl|go_num,by first|rfl|go_num,by omega,HNN.out.1,HNN.out.2,by omega,by omega,by simpa using HF.out,hid ⟨HB3.out,HK3.out,HBD.out,HRQ.out⟩⟩
 case measure=>obtain⟨m1,m2,m3,m4⟩:=HN.out;have mg:=HGT.out;by_cases hz:r'≤0<;>simp[intOf,hz]<;>omega):p:=h
theorem c421 {p:Prop}(h:p:=by
 obtain⟨hT3,hB3,hK3⟩:=HW;refine(show Calls Tryz.prog 105 #[I ((1:Nat):Int)] W (fun e w'=>e= .returned (I 16)∧w'=W)from slab_call 1 (by omega) W hT3).mono ?_
 rintro e w3 ⟨rfl,rfl⟩;have HB3:=hid hB3;have HK3:=hid hK3;clear hT3 hB3 hK3 HS
 go_wp2_with fail
 go_roundw
 case rel=>exact⟨f,n'-r',16-1,2,o.up 1 16,by first|rfl|go_num,by first|rfl|go_num,by first|rfl|go_num,by omega,HNN.out.1,HNN.out.2,by omega,by omega,by simpa using HF.out,hid ⟨HB3.out,HK3.out,HBD.out,HRQ.out⟩⟩
 case measure=>obtain⟨m1,m2,m3,m4⟩:=HN.out;have mg:=HGT.out;by_cases hz:r'≤0<;>simp[intOf,hz]<;>omega):p:=h
theorem c422 {p:Prop}(h:p:=by
 obtain⟨hT3,hB3,hK3⟩:=HW;refine(show Calls Tryz.prog 105 #[I ((2:Nat):Int)] W (fun e w'=>e= .returned (I 64)∧w'=W)from slab_call 2 (by omega) W hT3).mono ?_
 rintro e w3 ⟨rfl,rfl⟩;have HB3:=hid hB3;have HK3:=hid hK3;clear hT3 hB3 hK3 HS
 go_wp2_with fail
 go_roundw
 case rel=>exact⟨f,n'-r',64-1,3,o.up 2 64,by first|rfl|go_num,by first|rfl|go_num,by first|rfl|go_num,by omega,HNN.out.1,HNN.out.2,by omega,by omega,by simpa using HF.out,hid ⟨HB3.out,HK3.out,HBD.out,HRQ.out⟩⟩
 case measure=>obtain⟨m1,m2,m3,m4⟩:=HN.out;have mg:=HGT.out;by_cases hz:r'≤0<;>simp[intOf,hz]<;>omega):p:=h
theorem c423 {p:Prop}(h:p:=by
 obtain⟨hT3,hB3,hK3⟩:=HW;refine(show Calls Tryz.prog 105 #[I ((0:Nat):Int)] W (fun e w'=>e= .returned (I 4)∧w'=W)from slab_call 0 (by omega) W hT3).mono ?_
 rintro e w3 ⟨rfl,rfl⟩;have HB3:=hid hB3;have HK3:=hid hK3;clear hT3 hB3 hK3 HS
 go_wp2_with fail
 go_roundw
 case rel=>exact⟨f,n'-r',4-1,1,o.up 0 4,by first|rfl|go_num,by first|rfl|go_num,by first|rfl|go_num,by omega,HNN.out.1,HNN.out.2,by omega,by omega,by simpa using HF.out,hid ⟨HB3.out,HK3.out,HBD.out,HRQ.out⟩⟩
 case measure=>obtain⟨m1,m2,m3,m4⟩:=HN.out;have mg:=HGT.out;by_cases hz:r'≤0<;>simp[intOf,hz]<;>omega):p:=h
theorem c424 {p:Prop}(h:p:=by
 have zz120:=@c597;exact c596):p:=h
theorem c425 {p:Prop}(h:p:=by
 have zz120:=@c598;exact c596):p:=h
theorem c426 {p:Prop}(h:p:=by
 have zz120:=@c599;exact c596):p:=h
theorem c427 {p:Prop}(h:p:=by
 have zz120:=@c600;exact c596):p:=h
theorem c428 {p:Prop}(h:p:=by
 have zz120:=@c601;exact c596):p:=h
theorem c429 {p:Prop}(h:p:=by
 have zz120:=@c602;exact c596):p:=h
theorem c430 {p:Prop}(h:p:=by
 go_wp2_with fail
 refine bp_gen (fun W=>Blk W (b+1) [I (4*s0),I (16*s1),I (64*s2),I 0,I 0,I 0]∧Keeps (· <b) w W) ⟨?_,?_⟩ ?_
 ·exact c54
 ·exact kA
 clear z0 z1 z2 z3 z4 z5 d0 d1 d2 d3 d4 d5 f1 hC0 hC1 hC2 hkr;rintro W2 ⟨g1,g2⟩;obtain⟨d0,d1,d2,d3,d4,d5⟩:=g1.c6;refine bodyPost_ret (v:= .tuple #[.agg #[I (4*s0),I (16*s1),I (64*s2),I 0,I 0,I 0],.bool false]) ?_ rfl ?_
 ·exact c51
 ·exact hR'.out _ _ ⟨⟨4*s0,16*s1,64*s2,0,0,0⟩,rfl,g2⟩):p:=h
theorem c431 {p:Prop}(h:p:=by
 go_wp2_with fail
 refine bp_gen (fun W=>Blk W (b+1) [I (4*s0),I (16*s1),I 0,I 0,I 0,I 0]∧Keeps (· <b) w W) ⟨?_,?_⟩ ?_
 ·exact c54
 ·exact kA
 clear z0 z1 z2 z3 z4 z5 d0 d1 d2 d3 d4 d5 f1 hC0 hC1 hC2 hkr;rintro W2 ⟨g1,g2⟩;obtain⟨d0,d1,d2,d3,d4,d5⟩:=g1.c6;refine bodyPost_ret (v:= .tuple #[.agg #[I (4*s0),I (16*s1),I 0,I 0,I 0,I 0],.bool false]) ?_ rfl ?_
 ·exact c51
 ·exact hR'.out _ _ ⟨⟨4*s0,16*s1,0,0,0,0⟩,rfl,g2⟩):p:=h
theorem c432 {p:Prop}(h:p:=by
 go_wp2_with fail
 refine bp_gen (fun W=>Blk W (b+1) [I (4*s0),I 0,I 0,I 0,I 0,I 0]∧Keeps (· <b) w W) ⟨?_,?_⟩ ?_
 ·exact c54
 ·exact kA
 clear z0 z1 z2 z3 z4 z5 d0 d1 d2 d3 d4 d5 f1 hC0 hC1 hC2 hkr;rintro W2 ⟨g1,g2⟩;obtain⟨d0,d1,d2,d3,d4,d5⟩:=g1.c6;refine bodyPost_ret (v:= .tuple #[.agg #[I (4*s0),I 0,I 0,I 0,I 0,I 0],.bool false]) ?_ rfl ?_
 ·exact c51
 ·exact hR'.out _ _ ⟨⟨4*s0,0,0,0,0,0⟩,rfl,g2⟩):p:=h
theorem c433 {p:Prop}(h:p:=by
 clear hb;exact absurd True.intro (by have q0:=H0.out ;have q1:=H1.out ;have q2:=H2.out ;have q3:=H3.out ;have q4:=H4.out ;have q5:=H5.out ;have q6:=H6.out ;have q7:=H7.out ;have q8:=H8.out ;have q9:=H9.out ;have q10:=H10.out ;have q11:=H11.out ;have q12:=H12.out ;have q13:=H13.out ;have q14:=H14.out ;have q15:=H15.out ;have q16:=H16.out ;have q17:=H17.out ;have q18:=H18.out ;have q19:=H19.out ;omega)):p:=h
theorem c434 {p:Prop}(h:p:=by
 refine⟨0,X,by first|rfl|go_num,x0,by omega,hid ⟨by omega,?_,?_,fun j h=>by omega⟩⟩
 ·exact c33
 ·exact c11):p:=h
theorem c435 {p:Prop}(h:p:=by
 obtain⟨hB3,hK3⟩:=HW;refine(slab_at3 W).mono ?_;rintro e w3 ⟨rfl,rfl⟩;have HB3:=hid hB3;have HK3:=hid hK3;clear hB3 hK3 HS
 go_wp2_with fail
 go_roundw
 case rel=>exact⟨i+1,m,256-2,3,o.up 3 256,by first|rfl|go_num,by first|rfl|go_num,by first|rfl|go_num,by omega,by omega,HIM.out,hid ⟨HB3.out,HK3.out,HBD.out,HRQ.out⟩⟩
 case measure=>have:=HLT.out;simp[intOf];omega):p:=h
theorem c436 {p:Prop}(h:p:=by
 obtain⟨hB3,hK3⟩:=HW;refine(slab_at1 W).mono ?_;rintro e w3 ⟨rfl,rfl⟩;have HB3:=hid hB3;have HK3:=hid hK3;clear hB3 hK3 HS
 go_wp2_with fail
 go_roundw
 case rel=>exact⟨i+1,m,16-2,2,o.up 1 16,by first|rfl|go_num,by first|rfl|go_num,by first|rfl|go_num,by omega,by omega,HIM.out,hid ⟨HB3.out,HK3.out,HBD.out,HRQ.out⟩⟩
 case measure=>have:=HLT.out;simp[intOf];omega):p:=h
theorem c437 {p:Prop}(h:p:=by
 obtain⟨hB3,hK3⟩:=HW;refine(slab_at2 W).mono ?_;rintro e w3 ⟨rfl,rfl⟩;have HB3:=hid hB3;have HK3:=hid hK3;clear hB3 hK3 HS
 go_wp2_with fail
 go_roundw
 case rel=>exact⟨i+1,m,64-2,3,o.up 2 64,by first|rfl|go_num,by first|rfl|go_num,by first|rfl|go_num,by omega,by omega,HIM.out,hid ⟨HB3.out,HK3.out,HBD.out,HRQ.out⟩⟩
 case measure=>have:=HLT.out;simp[intOf];omega):p:=h
theorem c438 {p:Prop}(h:p:=by
 obtain⟨hB3,hK3⟩:=HW;refine(slab_at0 W).mono ?_;rintro e w3 ⟨rfl,rfl⟩;have HB3:=hid hB3;have HK3:=hid hK3;clear hB3 hK3 HS
 go_wp2_with fail
 go_roundw
 case rel=>exact⟨i+1,m,4-2,1,o.up 0 4,by first|rfl|go_num,by first|rfl|go_num,by first|rfl|go_num,by omega,by omega,HIM.out,hid ⟨HB3.out,HK3.out,HBD.out,HRQ.out⟩⟩
 case measure=>have:=HLT.out;simp[intOf];omega):p:=h
theorem c439 {p:Prop}(h:p:=by
 obtain⟨d0,d1,d2,d3,d4,d5,d6,d7,d8,d9,d10,d11,d12,d13,d14⟩:=hD.c15;refine bodyPost_ret (v:= .tuple #[.agg #[I 0,I 0,I 0,I 0,I 0,I 0,I 0,I 0,I 0,I 0,I 0,I 0,I 0,I 0,I 0],I 1]) ?_ rfl ?_
 ·exact c665
 ·exact hR'.out _ _ ⟨rfl,hkk⟩):p:=h
theorem c440 {p:Prop}(h:p:=by
 have he:=HnP.out h128 (Or.inr (Or.inl (by rw[hk];omega)))
 injection he with e1 e2
 subst e1 e2;clear hk hln h192 h128 hsz;exact c65):p:=h
theorem c441 {p:Prop}(h:p:=by
 go_wp2_with fail
 refine(slab_at3 _).mono ?_;rintro e w2 ⟨rfl,rfl⟩
 go_wp2_with fail
 go_roundw
 case rel=>
  refine⟨i+1,z+256,by first|rfl|go_num,by omega,by omega,hid ⟨HR.out.1,?_,?_,HR.out.2⟩⟩
  ·exact c33
  ·exact c11
 case measure=>have:=HLT.out;simp[intOf];omega):p:=h
theorem c442 {p:Prop}(h:p:=by
 go_wp2_with fail
 refine(slab_at1 _).mono ?_;rintro e w2 ⟨rfl,rfl⟩
 go_wp2_with fail
 go_roundw
 case rel=>
  refine⟨i+1,z+16,by first|rfl|go_num,by omega,by omega,hid ⟨HR.out.1,?_,?_,HR.out.2⟩⟩
  ·exact c33
  ·exact c11
 case measure=>have:=HLT.out;simp[intOf];omega):p:=h
theorem c443 {p:Prop}(h:p:=by
 go_wp2_with fail
 refine(slab_at2 _).mono ?_;rintro e w2 ⟨rfl,rfl⟩
 go_wp2_with fail
 go_roundw
 case rel=>
  refine⟨i+1,z+64,by first|rfl|go_num,by omega,by omega,hid ⟨HR.out.1,?_,?_,HR.out.2⟩⟩
  ·exact c33
  ·exact c11
 case measure=>have:=HLT.out;simp[intOf];omega):p:=h
theorem c444 {p:Prop}(h:p:=by
 go_wp2_with fail
 refine(slab_at0 _).mono ?_;rintro e w2 ⟨rfl,rfl⟩
 go_wp2_with fail
 go_roundw
 case rel=>
  refine⟨i+1,z+4,by first|rfl|go_num,by omega,by omega,hid ⟨HR.out.1,?_,?_,HR.out.2⟩⟩
  ·exact c33
  ·exact c11
 case measure=>have:=HLT.out;simp[intOf];omega):p:=h
theorem c445 {p:Prop}(h:p:=by
 rintro e w2 ⟨rfl,rfl⟩
 go_wp2_with fail
 refine hR'.out _ _ ⟨?_,?_⟩
 ·rw[HE.out];rfl
 ·exact c11):p:=h
theorem c446 {p:Prop}(h:p:=by
 have he:=Hsm.out.2 (fun h=>by rw[hv]at h;exact absurd h.1 (by decide))
 injection he with e1 e2
 subst e1 e2;clear hv;exact c65):p:=h
theorem c447 {p:Prop}(h:p:=by
 have hm:classM r=1:=by have q0:=H0.out ;have q1:=H1.out ;have q2:=H2.out ;have q3:=H3.out ;have q4:=H4.out ;have q5:=H5.out ;have q6:=H6.out ;rw[classM_ifs] ;omega
 clear H0 H1 H2 H3 H4 H5 H6;exact c25):p:=h
theorem c448 {p:Prop}(h:p:=by
 have he:=HnP.out H128.out (Or.inr (Or.inr ⟨j+1,by omega,by rw[Hk.out];omega,by rw[hcb];omega⟩))
 injection he with e1 e2
 subst e1 e2;clear hcb hacc hcb2;generalize accN s i j=n at*
 go_wp2_with fail
 exact hR'.out _ _ ⟨rfl,Keeps.refl _ _⟩):p:=h
theorem c449 {p:Prop}(h:p:=by
 repeat(first|with_reducible exact HKW.out|with_reducible refine Keeps.drew ?_|with_reducible refine Keeps.setCell ?_ ?_ _|with_reducible refine Keeps.alloc ?_ ?_ _)
 all_goals first|(intro b hb;have:=HKW.out.size;omega)|simp):p:=h
theorem c450 {p:Prop}(h:p:=by
 go_wp2_with fail
 refine bp_gen (fun W=>Blk W (b+1) [I 0,I 0,I 0,I 0,I 0,I 0]∧Keeps (· <b) w W) ⟨?_,?_⟩ ?_
 ·exact c54
 ·exact kA
 clear z0 z1 z2 z3 z4 z5 d0 d1 d2 d3 d4 d5 f1 hC0 hC1 hC2 hkr;exact c21):p:=h
theorem c451 {p:Prop}(h:p:=by
 first|with_reducible exact Blk.set6 hB1 _ _ _ _ _ _ (by simp)|with_reducible exact(Blk.set6 hB1 _ _ _ _ _ _ (by simp)).drew):p:=h
theorem c452 {p:Prop}(h:p:=by
 have Hr:=hid hr;clear hr
 go_wp2_with fail
 refine hR'.out _ _ ⟨?_,HK1.out⟩;exact c66):p:=h
theorem c453 {p:Prop}(h:p:=by
 have:=h.cells (g:=b) (by rw[h1];rfl) j u hu
 have ea:(⟨b,0,none⟩:Addr).add j=⟨b,j,none⟩:=by unfold Addr.add;split<;>simp_all
 rw[Nat.zero_add,←ea];exact this):p:=h
theorem c454 {p:Prop}(h:p:=by
 have hm:foldM r=r+32:=by have q0:=H0.out ;have q1:=H1.out ;have q2:=H2.out ;have q3:=H3.out ;rw[foldM_ifs] ;omega
 clear H0 H1 H2 H3;exact c12):p:=h
theorem c455 {p:Prop}(h:p:=by
 obtain rfl:k=6:=by omega
 clear hb0 hb1 hb2
 go_wp2_with fail
 refine hR'.out _ _ ⟨?_,?_⟩
 ·rw[(fitsP_iff p u m HU.out).2 Hno.out];rfl
 ·exact c11):p:=h
theorem c456 {p:Prop}(h:p:=by
 refine calls_hide fun R' hR'=>?_
 go_enter Tryz.func39,Tryz.ntmps39
 exact c90):p:=h
theorem c457 {p:Prop}(h:p:=by
 go_enter Tryz.func94,Tryz.ntmps94
 exact c86):p:=h
theorem c458 {p:Prop}(h:p:=by
 clear H0 H1 H2 H3 H4 H5 H6 H7 H8 H9 H10 H11 H12 H13 H14 H15 H16 H17 H18;exact c12):p:=h
theorem c459 {p:Prop}(h:p:=by
 have hl4I:(4:Int)<(fs.length:Int):=by omega
 have hr:res=none:=by rw[Hres.out];unfold toksM longF;simp[hl4]
 exact c58):p:=h
theorem c460 {p:Prop}(h:p:=by
 have zz167:=@c790;exact c789):p:=h
theorem c461 {p:Prop}(h:p:=by
 have zz141:=@c686;exact c684):p:=h
theorem c462 {p:Prop}(h:p:=by
 exact zz2):p:=h
end Go.Proofs.YtogdknnkhkjmcaaGreatDoor
