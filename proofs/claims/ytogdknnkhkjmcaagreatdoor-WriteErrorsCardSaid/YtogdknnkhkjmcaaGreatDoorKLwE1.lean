/- Lemmas on the programs that the statement reaches. -/
import Derived.Test.YtogdknnkhkjmcaaGreatDoorKLwH0
import Derived.Test.YtogdknnkhkjmcaaGreatDoorKLwF
namespace Go.Proofs.YtogdknnkhkjmcaaGreatDoor
open Go.RowKit
set_option linter.all false
theorem Wd.more {w0 w w':World}{K:Nat→Prop}{X m c:Nat}{C:ConfM}{cs:List Int}{W:WrM}{st:Int}(h:Wd w0 w K X m c C cs W st)(k:Keeps (· <w.heap.size) w w'):Wd w0 w' (fun b=>K b∨(w.heap.size≤b∧b<w'.heap.size)) X m c C cs W st:=by
 obtain⟨SA,sc,CA,cc,TA,tc,h1,h2,h3,h4⟩:=h.obj;obtain⟨μ,m1,m2,m3⟩:=h.mem;have hl:=h1.lt;have hm:=m1.obj.lt;have hc:=m1.cells.lt;have hs:=k.size;have h00:=h.kp.size;exact⟨⟨SA,sc,CA,cc,TA,tc,h1.keep k hl,(h2.keep k h.lt).mono fun b hb=>Or.inl hb,(h3.keep k h.lt).mono fun b hb=>Or.inl hb,(h4.keep k h.lt).mono fun b hb=>Or.inl hb⟩,⟨μ,m1.keep k hm hc,m2,m3⟩,
  fun hb=>hb.elim h.kx (fun g=>by omega),fun hb=>hb.elim h.km (fun g=>by omega),fun hb=>hb.elim h.kc (fun g=>by omega),fun b hb=>hb.elim (fun g=>by have:=h.lt b g;omega) (fun g=>g.2),h.xm,h.xc,fun b hb=>Or.inl (h.k0 b hb),h.kp.trans (k.mono fun b hb=>by omega)⟩
theorem Wd.ver {w0 w:World}{K:Nat→Prop}{X m c:Nat}{C:ConfM}{cs:List Int}{W:WrM}{st:Int}(h:Wd w0 w K X m c C cs W st):w.cell? ⟨X,28,none⟩=some (J W.ver):=by
 obtain⟨SA,sc,CA,cc,TA,tc,h1,_⟩:=h.obj;exact(h1.cell 28).trans (x_get26 2 _ rfl)
theorem exC_ok (kk bb:Value):(exC kk bb).ok∧(exC kk bb).all≤5000∧¬(exC kk bb).plan.size.a5<(exC kk bb).plan.live+2:=by
 have h1:(exC kk bb).plan.live=137:=rfl;have h2:(exC kk bb).plan.size.a5=200:=rfl;have h3:(exC kk bb).all=247:=rfl;exact⟨⟨(by decide:(1:Int)≤2),(by decide:(2:Int)≤64),(by decide:(64:Int)≤64),(by decide:(64:Int)≤256),(by decide:(0:Int)≤2),(by decide:(2:Int)≤512),(by decide:(0:Int)≤1),(by decide:(1:Int)≤512),(by decide:(0:Int)≤0),(by decide:(0:Int)≤512),(by decide:(0:Int)≤0),(by decide:(0:Int)≤512),(by decide:(0:Int)≤20),(by decide:(20:Int)≤65536),(by decide:(0:Int)≤200),(by decide:(200:Int)≤65536)⟩,by omega,by omega⟩
set_option maxRecDepth 100000 in
set_option maxHeartbeats 4000000 in
theorem law_fixed {w0 w:World}(hT:PTab w0)(hF:FoldTab w0)(hk:Keeps (· <w0.heap.size) w0 w):Z 10 #[] w fun e w'=>e= .returned (.bool true)∧Keeps (· <w.heap.size) w w':=by
 obtain⟨kk,bb,hkb⟩:∃kk bb,kk=Value.float .f64 0∧bb=Value.float .f64 0:=⟨_,_,rfl,rfl⟩;obtain⟨x1,x2,x3⟩:=exC_ok kk bb;have hbeg:=begin_good (exC kk bb) ⟨x1,x2⟩ x3 w0 w (hT.keep (K:=(· <w0.heap.size)) hk hT.2.2.2.2) hk;have hG0:=Good.new (exC kk bb) x1 (by omega) x3
 obtain⟨hk1',hk2'⟩:=hkb;have hlist:(exC kk bb).list=[I 2,I 64,I 2,I 1,I 0,I 0,I 20,I 200,.float .f64 0,.float .f64 0]:=by rw[hk1',hk2'];rfl
 rw[hlist]at hbeg;have HBEG:=hid hbeg;have HG0:=hid hG0;have HT:=hid hT;have HF:=hid hF;have E1:=hid (ex_1 kk bb);have E2:=hid (ex_2 kk bb);have E3:=hid (ex_3 kk bb);have E4:=hid (ex_4 kk bb);have S0:=hid (show exS0 kk bb=(newC (exC kk bb),newW (exC kk bb))from rfl)
 have V0:=hid (show(newW (exC kk bb)).ver=0 from rfl)
 clear hT hF hk x1 x2 x3 hbeg hG0 hlist hk1' hk2';refine calls_hide fun R' hR'=>?_
 go_enter Tryz.func10,Tryz.ntmps10
 go_wp2_with fail
 refine HBEG.out.mono ?_;rintro e w1 ⟨X,m,c,st0,rfl,hW1,⟨hgX,hgm,hgc⟩,hk1⟩;clear HBEG;generalize newC (exC kk bb)=cs0 at*;generalize newW (exC kk bb)=W0 at*;have HW1:=hid hW1;have Hk1:=hid hk1;clear hW1 hk1
 go_upto_region 5 with fail
 have hka:Keeps (· <w1.heap.size) w1 ((w1.alloc (.cells #[.string ⟨#[102,111,120,32,102,111,120]⟩] 9)).alloc (.cells #[.bool false,J 7,.slice (some ⟨w1.heap.size,0,none⟩) 1 1] 37)):=((Keeps.refl _ _).alloc (fun b hb=>hb) _).alloc (fun b hb=>by have hb:b<w1.heap.size:=hb;simp;omega) _
 have hFB:=(Blk.new w1 [.string ⟨#[102,111,120,32,102,111,120]⟩] 9).alloc (.cells #[.bool false,J 7,.slice (some ⟨w1.heap.size,0,none⟩) 1 1] 37);have hOB:=Blk.new' (w1.alloc (.cells #[.string ⟨#[102,111,120,32,102,111,120]⟩] 9)) [.bool false,J 7,.slice (some ⟨w1.heap.size,0,none⟩) 1 1] 37 (b:=w1.heap.size+1) (by simp)
 have hWa:=HW1.out.more hka;have hkwa:=Hk1.out.trans (hka.mono fun b hb=>by have:=Hk1.out.size;omega)
 have hXl:X<w1.heap.size∧m<w1.heap.size∧c<w1.heap.size:=by
  obtain⟨_,_,_,_,_,_,g,_⟩:=HW1.out.obj;obtain⟨_,g2,_⟩:=HW1.out.mem;exact⟨g.lt,g2.obj.lt,g2.cells.lt⟩
 generalize hFe:w1.heap.size=FB at*;generalize (w1.alloc (.cells #[.string ⟨#[102,111,120,32,102,111,120]⟩] 9)).alloc (.cells #[.bool false,J 7,.slice (some ⟨FB,0,none⟩) 1 1] 37)=wa0 at*;clear HW1 Hk1 hka;obtain⟨hXl,hml,hcl⟩:=hXl;have hV0:=V0.out;have HFK0:=hid hWa;obtain⟨W1,er0,cs1,⟨n0,hi0⟩,-,-,-,hve0,⟨live1,t1,q1,hh1,hG1⟩,hdo0⟩:=do_good hWa HG0.out HT.out HF.out ⟨false,7,some ⟨FB,0,none⟩,1,[⟨#[102,111,120,32,102,111,120]⟩]⟩
  ⟨(SlAt.of_blkS (K:=fun b=>b=FB) hFB rfl rfl (by show 1≤maxLen;decide)).mono (fun b hb=>by rw[hb];first|exact Or.inr ⟨by omega,by have:=hOB.lt;omega⟩|exact Or.inl (Or.inr ⟨by omega,HFL.out⟩)|exact Or.inl (Or.inl (Or.inr ⟨by omega,HFL.out⟩))|exact Or.inl (Or.inl (Or.inl (Or.inr ⟨by omega,HFL.out⟩)))|exact Or.inl (Or.inl (Or.inl (Or.inl (Or.inr ⟨by omega,HFL.out⟩))))),(show U32 7 by unfold U32;omega),fun x hx=>by have hx:=List.mem_singleton.1 hx;subst hx;exact(by decide:7≤140737488355328)⟩ (show 1≤1000000 by decide) (by omega)
 have hS1:exS1 kk bb=(cs1,W1):=stepS_of (by rw[S0.out];exact HG0.out.last) (by rw[S0.out];exact hi0)
 have hV1:W1.ver=1:=by have h9:=E1.out;rw[hS1]at h9;exact h9
 have S1:=hid hS1;have HG1:=hid hG1;have HDO:=hid hdo0;have HFL:=hid (show FB<wa0.heap.size by have:=hOB.lt;omega)
 unfold OpV.cells at HDO;have hob:=hOB;obtain⟨b0,b1,b2⟩:=hob.c3;clear hob hi0 hve0 hS1 hG1 hdo0 HFK0;have hal:=hOB.lt;have HWa:=hid hWa;have Hkwa:=hid hkwa;have HFB:=hid hFB;have HOB:=hid hOB;have Hal:=hid hal;clear hWa hkwa hFB hOB hal
 go_wp2_with fail
 refine HDO.out.mono ?_;rintro e wa1 ⟨rfl,⟨st1,hWa,-⟩,hkd⟩;have hFB:=HFB.out.keep hkd ⟨by have:=Hal.out;omega,by omega,by omega,by omega⟩
 have hOB:=HOB.out.keep hkd ⟨Hal.out,by omega,by omega,by omega⟩
 have hkwa:=Hkwa.out.trans (hkd.mono fun b hb=>⟨by have:=Hkwa.out.size;omega,by omega,by omega,by omega⟩)
 have hcv:=hWa.ver;rw[hV1]at hcv;clear HDO HWa Hkwa HFB HOB hkd b0 b1 b2 Hal;have HFK1:=hid hWa;obtain⟨W2,er1,cs2,⟨n1,hi1⟩,-,-,-,hve1,⟨live2,t2,q2,hh2,hG2⟩,hdo1⟩:=do_good hWa HG1.out HT.out HF.out ⟨false,7,some ⟨FB,0,none⟩,1,[⟨#[102,111,120,32,102,111,120]⟩]⟩
  ⟨(SlAt.of_blkS (K:=fun b=>b=FB) hFB rfl rfl (by show 1≤maxLen;decide)).mono (fun b hb=>by rw[hb];first|exact Or.inr ⟨by omega,by have:=hOB.lt;omega⟩|exact Or.inl (Or.inr ⟨by omega,HFL.out⟩)|exact Or.inl (Or.inl (Or.inr ⟨by omega,HFL.out⟩))|exact Or.inl (Or.inl (Or.inl (Or.inr ⟨by omega,HFL.out⟩)))|exact Or.inl (Or.inl (Or.inl (Or.inl (Or.inr ⟨by omega,HFL.out⟩))))),(show U32 7 by unfold U32;omega),fun x hx=>by have hx:=List.mem_singleton.1 hx;subst hx;exact(by decide:7≤140737488355328)⟩ (show 1≤1000000 by decide) (by omega)
 have hS2:exS2 kk bb=(cs2,W2):=stepS_of (by rw[S1.out];exact HG1.out.last) (by rw[S1.out];exact hi1)
 have hV2:W2.ver=1:=by have h9:=E2.out;rw[hS2]at h9;exact h9
 have S2:=hid hS2;have HG2:=hid hG2;have HDO:=hid hdo1
 skip
 unfold OpV.cells at HDO;have hob:=hOB;obtain⟨b0,b1,b2⟩:=hob.c3;clear hob hi1 hve1 hS2 hG2 hdo1 HFK1;have hal:=hOB.lt;have HWa:=hid hWa;have Hkwa:=hid hkwa;have HFB:=hid hFB;have HOB:=hid hOB;have Hal:=hid hal;clear hWa hkwa hFB hOB hal
 go_wp2_with fail
 refine HDO.out.mono ?_;rintro e wa2 ⟨rfl,⟨st2,hWa,-⟩,hkd⟩;have hFB:=HFB.out.keep hkd ⟨by have:=Hal.out;omega,by omega,by omega,by omega⟩
 have hOB:=HOB.out.keep hkd ⟨Hal.out,by omega,by omega,by omega⟩
 have hkwa:=Hkwa.out.trans (hkd.mono fun b hb=>⟨by have:=Hkwa.out.size;omega,by omega,by omega,by omega⟩)
 have hcv:=hWa.ver;rw[hV2]at hcv;clear HDO HWa Hkwa HFB HOB hkd b0 b1 b2 Hal;have HFK2:=hid hWa;obtain⟨W3,er2,cs3,⟨n2,hi2⟩,-,-,-,hve2,⟨live3,t3,q3,hh3,hG3⟩,hdo2⟩:=do_good hWa HG2.out HT.out HF.out ⟨true,7,some ⟨FB,0,none⟩,1,[⟨#[102,111,120,32,102,111,120]⟩]⟩
  ⟨(SlAt.of_blkS (K:=fun b=>b=FB) hFB rfl rfl (by show 1≤maxLen;decide)).mono (fun b hb=>by rw[hb];first|exact Or.inr ⟨by omega,by have:=hOB.lt;omega⟩|exact Or.inl (Or.inr ⟨by omega,HFL.out⟩)|exact Or.inl (Or.inl (Or.inr ⟨by omega,HFL.out⟩))|exact Or.inl (Or.inl (Or.inl (Or.inr ⟨by omega,HFL.out⟩)))|exact Or.inl (Or.inl (Or.inl (Or.inl (Or.inr ⟨by omega,HFL.out⟩))))),(show U32 7 by unfold U32;omega),fun x hx=>by have hx:=List.mem_singleton.1 hx;subst hx;exact(by decide:7≤140737488355328)⟩ (show 1≤1000000 by decide) (by omega)
 have hS3:exS3 kk bb=(cs3,W3):=stepS_of (by rw[S2.out];exact HG2.out.last) (by rw[S2.out];exact hi2)
 have hV3:W3.ver=2:=by have h9:=E3.out;rw[hS3]at h9;exact h9
 have S3:=hid hS3;have HG3:=hid hG3;have HDO:=hid hdo2
 skip
 unfold OpV.cells at HDO;have hob:=hOB;obtain⟨b0,b1,b2⟩:=hob.c3;clear hob hi2 hve2 hS3 hG3 hdo2 HFK2;have hal:=hOB.lt;have HWa:=hid hWa;have Hkwa:=hid hkwa;have HFB:=hid hFB;have HOB:=hid hOB;have Hal:=hid hal;clear hWa hkwa hFB hOB hal
 go_wp2_with fail
 refine HDO.out.mono ?_;rintro e wa3 ⟨rfl,⟨st3,hWa,-⟩,hkd⟩;have hFB:=HFB.out.keep hkd ⟨by have:=Hal.out;omega,by omega,by omega,by omega⟩
 have hOB:=HOB.out.keep hkd ⟨Hal.out,by omega,by omega,by omega⟩
 have hkwa:=Hkwa.out.trans (hkd.mono fun b hb=>⟨by have:=Hkwa.out.size;omega,by omega,by omega,by omega⟩)
 have hcv:=hWa.ver;rw[hV3]at hcv;clear HDO HWa Hkwa HFB HOB hkd b0 b1 b2 Hal;have HFK3:=hid hWa;obtain⟨W4,er3,cs4,⟨n3,hi3⟩,-,-,-,hve3,⟨live4,t4,q4,hh4,hG4⟩,hdo3⟩:=do_good hWa HG3.out HT.out HF.out ⟨true,7,some ⟨FB,0,none⟩,1,[⟨#[102,111,120,32,102,111,120]⟩]⟩
  ⟨(SlAt.of_blkS (K:=fun b=>b=FB) hFB rfl rfl (by show 1≤maxLen;decide)).mono (fun b hb=>by rw[hb];first|exact Or.inr ⟨by omega,by have:=hOB.lt;omega⟩|exact Or.inl (Or.inr ⟨by omega,HFL.out⟩)|exact Or.inl (Or.inl (Or.inr ⟨by omega,HFL.out⟩))|exact Or.inl (Or.inl (Or.inl (Or.inr ⟨by omega,HFL.out⟩)))|exact Or.inl (Or.inl (Or.inl (Or.inl (Or.inr ⟨by omega,HFL.out⟩))))),(show U32 7 by unfold U32;omega),fun x hx=>by have hx:=List.mem_singleton.1 hx;subst hx;exact(by decide:7≤140737488355328)⟩ (show 1≤1000000 by decide) (by omega)
 have hS4:exS4 kk bb=(cs4,W4):=stepS_of (by rw[S3.out];exact HG3.out.last) (by rw[S3.out];exact hi3)
 have hV4:W4.ver=2:=by have h9:=E4.out;rw[hS4]at h9;exact h9
 have S4:=hid hS4;have HG4:=hid hG4;have HDO:=hid hdo3
 skip
 unfold OpV.cells at HDO;have hob:=hOB;obtain⟨b0,b1,b2⟩:=hob.c3;clear hob hi3 hve3 hS4 hG4 hdo3 HFK3;have hal:=hOB.lt;have HWa:=hid hWa;have Hkwa:=hid hkwa;have HFB:=hid hFB;have HOB:=hid hOB;have Hal:=hid hal;clear hWa hkwa hFB hOB hal
 go_wp2_with fail
 refine HDO.out.mono ?_;rintro e wa4 ⟨rfl,⟨st4,hWa,-⟩,hkd⟩;have hFB:=HFB.out.keep hkd ⟨by have:=Hal.out;omega,by omega,by omega,by omega⟩
 have hOB:=HOB.out.keep hkd ⟨Hal.out,by omega,by omega,by omega⟩
 have hkwa:=Hkwa.out.trans (hkd.mono fun b hb=>⟨by have:=Hkwa.out.size;omega,by omega,by omega,by omega⟩)
 have hcv:=hWa.ver;rw[hV4]at hcv;clear HDO HWa Hkwa HFB HOB hkd b0 b1 b2 Hal;have Hkwa:=hid hkwa;have HWa:=hid hWa;clear hkwa hWa
 go_wp2_with fail
 exact hR'.out _ _ ⟨rfl,Hkwa.out⟩
def letB (i:Nat):ByteArray:=⟨#[UInt8.ofNat (98+i)]⟩
def letK (i:Nat):ByteArray:=keyB 0 (letB i)
theorem let_all:((List.range 13).all fun i=>(List.range 13).all fun j=>(bsL (letK i) !=bsL (letK j)||i==j))=true:=by kernel_rfl
theorem let_inj {i j:Nat}(hi:i<13)(hj:j<13)(h:bsL (letK i)=bsL (letK j)):i=j:=by
 have h1:=List.all_eq_true.1 (List.all_eq_true.1 let_all i (List.mem_range.2 hi)) j (List.mem_range.2 hj);rw[h]at h1
 simpa using h1
theorem let_size (i:Nat):(letK i).size=2:=rfl
structure EInv (C:ConfM)(cs:List Int)(W:WrM)(live:SegM)(t:Tab)(i:Nat)(l:List Int):Prop where
 segs:W.segs=[live]
 docs:live.docs=l.length
 terms:W.terms=(l.length:Int)
 u0:W.used.a0=4*(l.length:Int)
 u4:W.used.a4=3*(l.length:Int)
 fit:(l.length:Int)≤C.s0
 keys:∀j k a,t j=some (k,a)→∃m,m<i∧k=bsL (letK m)
 rows:∀d,d<l.length→∃b:Nat,live.base=(b:Int)∧cs[b+4*d+1]? =l[d]?
section
variable {C:ConfM}{P:Pools}{cs:List Int}{W:WrM}{live:SegM}{s:Nat}{t:Tab}{q:Nat→Nat}{hi i:Nat}{l:List Int}
theorem EInv.more (E:EInv C cs W live t i l):EInv C cs W live t (i+1) l:=
 ⟨E.segs,E.docs,E.terms,E.u0,E.u4,E.fit,fun j k a h=>by obtain⟨m,h1,h2⟩:=E.keys j k a h;exact⟨m,by omega,h2⟩,E.rows⟩
theorem tfind_mem {b:Nat}(id:Int):∀(n d:Nat) (r:List Int),r.length=n→(∀k,k<n→cs[b+4*(d+k)+1]? =r[k]?)→
  (0≤(tfindL cs (b:Int) id n d).1↔id∈r)
 |0,d,r,hr,_=>by
  obtain rfl:=List.length_eq_zero_iff.1 hr;show(0:Int)≤-1↔_
  simp
 |n+1,d,[],hr,_=>by cases hr
 |n+1,d,x::r,hr,h=>by
  have h0:=h 0 (by omega)
  rw[Nat.add_zero]at h0;have hx:cs[b+4*d+1]? =some x:=h0;obtain⟨hlt,_⟩:=List.getElem?_eq_some_iff.1 hx;have hat:atL cs ((b:Int)+4*(d:Int)+1)=(x,true):=by
   unfold atL;rw[if_pos ⟨by omega,by omega⟩,show((b:Int)+4*(d:Int)+1).toNat=b+4*d+1 by omega,List.getD_eq_getElem?_getD,hx]
   rfl
  unfold tfindL;rw[hat];dsimp only;rw[if_neg (by decide)]
  by_cases he:x=id
  ·rw[if_pos he];exact⟨fun _=>he▸List.mem_cons_self,fun _=>by omega⟩
  ·rw[if_neg he,tfind_mem id n (d+1) r (by simpa using hr) (fun k hk=>by
    have:=h (k+1) (by omega)
    rw[List.getElem?_cons_succ]at this;rw[←this];congr 1;omega)]
   exact⟨fun g=>List.mem_cons_of_mem _ g,fun g=>(List.mem_cons.1 g).resolve_left fun e=>he e.symm⟩
theorem EInv.find (G:Good C P cs W live s t q hi)(E:EInv C cs W live t i l)(id:Int):(rplaceL cs id W.segs 0).2.2=decide (id∈l):=by
 rw[E.segs];have h0:=G.room;have hb:=plan_base5 C G.ok;have hbase:=G.base;have hk0:=G.ok.k0;have hz4:C.plan.size.a4=C.book:=rfl;obtain⟨b,hb0⟩:∃b:Nat,live.base=(b:Int):=⟨live.base.toNat,by omega⟩
 have h1:=tfind_mem (cs:=cs) (b:=b) id live.docs 0 l E.docs.symm (fun k hk=>by
  obtain⟨b',e1,e2⟩:=E.rows k (by rw[←E.docs];exact hk)
  obtain rfl:b'=b:=by omega
  rw[Nat.zero_add];exact e2)
 unfold rplaceL;rw[hb0]
 by_cases h:id∈l
 ·rw[if_pos (h1.2 h),decide_eq_true h]
 ·rw[if_neg (fun g=>h (h1.1 g)),decide_eq_false h];rfl
theorem EInv.look (E:EInv C cs W live t i l)(hi13:i<13)(n:Nat)(hn:0<n):probe t n (homeD n (bsL (letK i))) (bsL (letK i)) n 0=(0,(probe t n (homeD n (bsL (letK i))) (bsL (letK i)) n 0).2)∧lookP cs t n (letK i)=⟨letK i,0,0,1⟩:=by
 have h0:(probe t n (homeD n (bsL (letK i))) (bsL (letK i)) n 0).1=0:=by
  by_cases h:(probe t n (homeD n (bsL (letK i))) (bsL (letK i)) n 0).1=0
  ·exact h
  ·obtain⟨j,a,_,hj,_,_⟩:=probe_sound (x:=(probe t n (homeD n (bsL (letK i))) (bsL (letK i)) n 0).1) (y:=(probe t n (homeD n (bsL (letK i))) (bsL (letK i)) n 0).2) rfl h hn;obtain⟨m,hm,he⟩:=E.keys _ _ _ hj;have:=let_inj hi13 (by omega) he
   omega
 exact⟨Prod.ext h0 rfl,by unfold lookP;rw[if_pos h0]⟩
theorem one_terms (E:EInv C cs W live t i l)(hi13:i<13)(n:Nat)(hn:0<n):termsP cs t n [(0,letB i,0)] []=[⟨letK i,0,0,1⟩]:=by
 show termsP cs t n [] ([]++[lookP cs t n (letK i)])=_;rw[(E.look hi13 n hn).2]
 rfl
theorem one_needs (p:PlanM)(i:Nat):needsP p [⟨letK i,0,0,1⟩] 0 zero6=(1,⟨4,0,0,0,3,0⟩):=by
 have hn:p.need 0 1=⟨4,0,0,0,0,0⟩:=by
  unfold PlanM.need PlanM.next
  rw[if_pos rfl]
  rfl
 unfold needsP;rw[if_pos rfl];dsimp only;rw[hn,let_size]
 rfl
theorem one_fits (G:Good C P cs W live s t q hi)(E:EInv C cs W live t i l)(hb:C.book=20)(hs:C.s0≤5):fitsP C.plan W.used ⟨4,0,0,0,3,0⟩=decide ((l.length:Int)<C.s0):=by
 have hu:=G.used;have v0:0≤W.used.a0∧W.used.a0≤C.plan.size.a0:=hu 0 (by decide)
 have v1:0≤W.used.a1∧W.used.a1≤C.plan.size.a1:=hu 1 (by decide)
 have v2:0≤W.used.a2∧W.used.a2≤C.plan.size.a2:=hu 2 (by decide)
 have v3:0≤W.used.a3∧W.used.a3≤C.plan.size.a3:=hu 3 (by decide)
 have v4:0≤W.used.a4∧W.used.a4≤C.plan.size.a4:=hu 4 (by decide)
 have v5:0≤W.used.a5∧W.used.a5≤C.plan.size.a5:=hu 5 (by decide)
 have z0:C.plan.size.a0=4*C.s0:=rfl;have z4:C.plan.size.a4=C.book:=rfl;have e0:=E.u0;have e4:=E.u4;have ef:=E.fit;unfold fitsP;dsimp only;rw[decide_eq_true (p:=0≤W.used.a1∧_) (by omega),decide_eq_true (p:=0≤W.used.a2∧_) (by omega),decide_eq_true (p:=0≤W.used.a3∧_) (by omega),decide_eq_true (p:=0≤W.used.a5∧_) (by omega)]
 by_cases h:(l.length:Int)<C.s0
 ·rw[decide_eq_true h,decide_eq_true (p:=0≤W.used.a0∧_) (by omega),decide_eq_true (p:=0≤W.used.a4∧_) (by omega)];rfl
 ·rw[decide_eq_false h,decide_eq_false (p:=0≤W.used.a0∧_) (by omega)];rfl
theorem next0 (p:PlanM):p.next ((0:Nat):Int)=(0,true):=by unfold PlanM.next;exact if_pos rfl
theorem one_used (G:Good C P cs W live s t q hi)(E:EInv C cs W live t i l)(hi13:i<13){d:Int}{cs1:List Int}{u':V6}(h:WordsTo C.plan s C.plan.slots.toNat d [(0,letB i,0)] cs W.used cs1 u'):
  u'.a0=W.used.a0+4∧u'.a4=W.used.a4+3:=by
 obtain⟨_,c1,rc,u1,tl,c2,t2,u2,hrec,htl,_,hput,_,rfl⟩:=h;have hl:=(E.look hi13 C.plan.slots.toNat G.dic.n0).1;have hf:=findL_of G.dic.rep G.dic.n0 (homeD C.plan.slots.toNat (bsL (letK i))) (letK i) C.plan.slots.toNat 0;have hk:keyB ((0:Int),letB i,(0:Int)).1 ((0:Int),letB i,(0:Int)).2.1=letK i:=rfl;rw[hk]at hrec
 rcases hrec with⟨sl,h1,h2,_⟩|⟨sl,h1,_,h3,h4,_,_,rfl,rfl⟩
 ·rw[hf,hl]at h1;injection h1 with h1 _
  exact absurd (by omega) h2
 ·rw[hf]at h1;injection h1 with e1 h1
  injection h1 with e2 _
  have hpr:probe t C.plan.slots.toNat (homeD C.plan.slots.toNat (bsL (letK i))) (bsL (letK i)) C.plan.slots.toNat 0=(0,(sl:Int)):=Prod.ext e1 e2;have htop:=G.dic.top;obtain rfl:rc=hi:=by omega
  have hz:tl=0:=by
   obtain⟨_,_,_,g4,_⟩:=G.dic.newRec hpr (by rw[bsL_len,let_size];decide) (fun x hx=>bsL_range _ x hx) (by rw[bsL_len];exact h3)
   rw[bsL_len,htl]at g4;injection g4 with g4
   omega
  subst hz
  rcases hput with⟨h5,_⟩|⟨k,a,_,h5,_,_,_,_,_,_,rfl⟩
  ·rw[next0]at h5;injection h5 with h5 _;exact absurd h5 (by decide)
  ·rw[next0]at h5;injection h5 with h5 _
   obtain rfl:k=0:=by omega
   rw[let_size];exact⟨rfl,rfl⟩
theorem one_step (G:Good C P cs W live s t q hi)(E:EInv C cs W live t i l)(hi13:i<13)(hb:C.book=20)(hs:C.s0≤5)(ht:C.terms=64)(id:Int)(hid:U32 id)(hv:W.ver+1≤4294967295):
  ∃W' er cs' c,AddWay C cs W live s id [(0,letB i,0)] (termsP cs t C.plan.slots.toNat [(0,letB i,0)] []) W' er cs'∧(addT C W live id [(0,letB i,0)]).ideal cs=some ((W',er),cs',c)∧c<1048576∧(er≠0→W'=W∧cs'=cs)∧
   er=(if id∈l then 6 else if C.docs≤(l.length:Int)then 5 else if C.s0≤(l.length:Int)then 3 else 0)∧
   (er=0→∃t' q' hi',Good C P cs' W' { live with docs:=live.docs+1 } s t' q' hi'∧EInv C cs' W' { live with docs:=live.docs+1 } t' (i+1) (l++[id])):=by
 obtain⟨W',er,cs',c,h1,h2,h3,h4,h5⟩:=G.add id hid [(0,letB i,0)] (fun x hx=>by rw[List.mem_singleton.1 hx];exact(by decide:1≤16)) (by show 1≤64;decide) hv
 refine⟨W',er,cs',c,h1,h2,h3,h4,?_,?_⟩
 ·have hf:=E.find G id;have hdoc:=E.docs;have htm:=E.terms;have hft:=E.fit;have hfi:=one_fits G E hb hs;rw[one_terms E hi13 _ G.dic.n0]at h1
  cases h1 with
  |dup g=>
   rw[hf]at g;rw[if_pos (of_decide_eq_true g)]
  |seg g g2=>
   rw[hf]at g;rw[if_neg (of_decide_eq_false g),if_pos (by omega)]
  |terms g g2 g3=>
   rw[one_needs]at g3;dsimp only at g3
   omega
  |full g g2 g3 g4=>
   rw[hf]at g;rw[one_needs,hfi]at g4;have g5:=of_decide_eq_false g4;rw[if_neg (of_decide_eq_false g),if_neg (by omega),if_pos (by omega)]
  |good cs1 u' qa g g2 g3 g4=>
   rw[hf]at g;rw[one_needs,hfi]at g4;have g5:=of_decide_eq_true g4;rw[if_neg (of_decide_eq_false g),if_neg (by omega),if_neg (by omega)]
 ·intro he;obtain⟨t',q',hi',hG,hkeys,qa,hqa,hrow,hfr⟩:=h5 he;refine⟨t',q',hi',hG,?_⟩;have hdoc:=E.docs;have htm:=E.terms;have hft:=E.fit;have hfi:=one_fits G E hb hs;rw[one_terms E hi13 _ G.dic.n0]at h1
  cases h1 with
  |dup=>exact absurd he (by decide)
  |seg=>exact absurd he (by decide)
  |terms=>exact absurd he (by decide)
  |full=>exact absurd he (by decide)
  |good cs1 u' qa2 g g2 g3 g4 g6 g7 g8=>
   rw[one_needs,hfi]at g4;have g5:=of_decide_eq_true g4;obtain⟨k0,k4⟩:=one_used G E hi13 g6;have e0:=E.u0;have e4:=E.u4;refine⟨?_,?_,?_,?_,?_,?_,?_,?_⟩
   ·show moreDocs W.segs=_;rw[E.segs];rfl
   ·rw[List.length_append];show live.docs+1=_;rw[hdoc];rfl
   ·show W.terms+(needsP C.plan [⟨letK i,0,0,1⟩] 0 zero6).1=_;rw[one_needs,List.length_append,htm];rfl
   ·show u'.a0=_;rw[List.length_append,k0,e0];show 4*(l.length:Int)+4=4*((l.length+1:Nat):Int)
    omega
   ·show u'.a4=_;rw[List.length_append,k4,e4];show 3*(l.length:Int)+3=3*((l.length+1:Nat):Int)
    omega
   ·rw[List.length_append];show((l.length+1:Nat):Int)≤_
    omega
   ·intro j k a hj
    rcases hkeys j k a hj with⟨a',h⟩|⟨x,hx,h⟩
    ·obtain⟨m,e1,e2⟩:=E.keys _ _ _ h;exact⟨m,by omega,e2⟩
    ·rw[List.mem_singleton.1 hx]at h;exact⟨i,by omega,h⟩
   ·intro d hd;rw[List.length_append]at hd;have hd:d<l.length+1:=hd;have h0:=G.room;have hbp:=plan_base5 C G.ok;have hbase:=G.base;have hk0:=G.ok.k0;have hz4:C.plan.size.a4=C.book:=rfl;obtain⟨b,hb0⟩:∃b:Nat,live.base=(b:Int):=⟨live.base.toNat,by omega⟩
    refine⟨b,hb0,?_⟩
    by_cases h:d<l.length
    ·obtain⟨b',e1,e2⟩:=E.rows d h;obtain rfl:b'=b:=by omega
     rw[List.getElem?_append_left h,←e2];exact hfr _ (by omega) (by omega)
    ·obtain rfl:d=l.length:=by omega
     rw[List.getElem?_append_right (Nat.le_refl _),Nat.sub_self];show _=some id;rw[←hrow]
     congr 1
     omega
end
end Go.Proofs.YtogdknnkhkjmcaaGreatDoor
