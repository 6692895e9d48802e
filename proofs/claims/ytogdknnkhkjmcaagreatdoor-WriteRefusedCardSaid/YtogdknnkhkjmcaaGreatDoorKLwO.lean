/- Lemmas on the programs that the statement reaches. -/
import Derived.Test.YtogdknnkhkjmcaaGreatDoorKOpenC
import Derived.Test.YtogdknnkhkjmcaaGreatDoorKLwF
namespace Go.Proofs.YtogdknnkhkjmcaaGreatDoor
open Go.RowKit
set_option linter.all false
theorem Wd.more {w0 w w':World}{K:Nat→Prop}{X m c:Nat}{C:ConfM}{cs:List Int}{W:WrM}{st:Int}(h:Wd w0 w K X m c C cs W st)(k:Keeps (· <w.heap.size) w w'):Wd w0 w' (fun b=>K b∨(w.heap.size≤b∧b<w'.heap.size)) X m c C cs W st:=by
 obtain⟨SA,sc,CA,cc,TA,tc,h1,h2,h3,h4⟩:=h.obj;obtain⟨μ,m1,m2,m3⟩:=h.mem;have hl:=h1.lt;have hm:=m1.obj.lt;have hc:=m1.cells.lt;have hs:=k.size;have h00:=h.kp.size;exact⟨⟨SA,sc,CA,cc,TA,tc,h1.keep k hl,(h2.keep k h.lt).mono fun b hb=>Or.inl hb,(h3.keep k h.lt).mono fun b hb=>Or.inl hb,(h4.keep k h.lt).mono fun b hb=>Or.inl hb⟩,⟨μ,m1.keep k hm hc,m2,m3⟩,
  fun hb=>hb.elim h.kx (fun g=>by omega),fun hb=>hb.elim h.km (fun g=>by omega),fun hb=>hb.elim h.kc (fun g=>by omega),fun b hb=>hb.elim (fun g=>by have:=h.lt b g;omega) (fun g=>g.2),h.xm,h.xc,fun b hb=>Or.inl (h.k0 b hb),h.kp.trans (k.mono fun b hb=>by omega)⟩
theorem Wd.ver {w0 w:World}{K:Nat→Prop}{X m c:Nat}{C:ConfM}{cs:List Int}{W:WrM}{st:Int}(h:Wd w0 w K X m c C cs W st):w.cell? ⟨X,28,none⟩=some (J W.ver):=by
 obtain⟨SA,sc,CA,cc,TA,tc,h1,_⟩:=h.obj;exact(h1.cell 28).trans (x_get26 2 _ rfl)
theorem exC_ok (kk bb:Value):(exC kk bb).ok∧(exC kk bb).all≤5000∧¬(exC kk bb).plan.size.a5<(exC kk bb).plan.live+2:=by
 have h1:(exC kk bb).plan.live=137:=rfl;have h2:(exC kk bb).plan.size.a5=200:=rfl;have h3:(exC kk bb).all=247:=rfl;exact⟨⟨(by decide:(1:Int)≤2),(by decide:(2:Int)≤64),(by decide:(64:Int)≤64),(by decide:(64:Int)≤256),(by decide:(0:Int)≤2),(by decide:(2:Int)≤512),(by decide:(0:Int)≤1),(by decide:(1:Int)≤512),(by decide:(0:Int)≤0),(by decide:(0:Int)≤512),(by decide:(0:Int)≤0),(by decide:(0:Int)≤512),(by decide:(0:Int)≤20),(by decide:(20:Int)≤65536),(by decide:(0:Int)≤200),(by decide:(200:Int)≤65536)⟩,by omega,by omega⟩
set_option maxRecDepth 100000 in
set_option maxHeartbeats 4000000 in
theorem law_fixed {w0 w:World}(hT:PTab w0)(hF:FoldTab w0)(hk:Keeps (· <w0.heap.size) w0 w):Z 10 #[] w fun e w'=>e= .returned (.bool true)∧Keeps (· <w.heap.size) w w':=by
 obtain⟨kk,bb,hkb⟩:∃kk bb,kk=Value.float .f64 0∧bb=Value.float .f64 0:=⟨_,_,rfl,rfl⟩;obtain⟨x1,x2,x3⟩:=exC_ok kk bb;have hbeg:=begin_good (exC kk bb) ⟨x1,x2⟩ x3 w0 w (hT.keep (K:=(· <w0.heap.size)) hk hT.2.2.2.2) hk;have hG0:=Good.new (exC kk bb) x1 (by omega) x3
 obtain⟨hk1',hk2'⟩:=hkb;have hlist:(exC kk bb).list=[I 2,I 64,I 2,I 1,I 0,I 0,I 20,I 200,.float .f64 0,.float .f64 0]:=by rw[hk1',hk2'];rfl
 rw[hlist]at hbeg;have HBEG:=hid hbeg;have HG0:=hid hG0;have HT:=hid hT;have HF:=hid hF;have E1:=hid (ex_1 kk bb);have E2:=hid (ex_2 kk bb);have E3:=hid (ex_3 kk bb);have E4:=hid (ex_4 kk bb);have S0:=hid (show exS0 kk bb=(newC (exC kk bb),newW (exC kk bb))from rfl)
 have V0:=hid (show(newW (exC kk bb)).ver=0 from rfl)
 clear hT hF hk x1 x2 x3 hbeg hG0 hlist hk1' hk2';refine calls_hide fun R' hR'=>?_
 go_enter Tryz.func10,Tryz.ntmps10
 go_wp2_with fail
 refine HBEG.out.mono ?_;rintro e w1 ⟨X,m,c,st0,rfl,hW1,⟨hgX,hgm,hgc⟩,hk1⟩;clear HBEG;generalize newC (exC kk bb)=cs0 at*;generalize newW (exC kk bb)=W0 at*;have HW1:=hid hW1;have Hk1:=hid hk1;clear hW1 hk1
 go_upto_region 5 with fail
 have hka:Keeps (· <w1.heap.size) w1 ((w1.alloc (.cells #[.string ⟨#[102,111,120,32,102,111,120]⟩] 9)).alloc (.cells #[.bool false,J 7,.slice (some ⟨w1.heap.size,0,none⟩) 1 1] 37)):=((Keeps.refl _ _).alloc (fun b hb=>hb) _).alloc (fun b hb=>by have hb:b<w1.heap.size:=hb;simp;omega) _
 have hFB:=(Blk.new w1 [.string ⟨#[102,111,120,32,102,111,120]⟩] 9).alloc (.cells #[.bool false,J 7,.slice (some ⟨w1.heap.size,0,none⟩) 1 1] 37);have hOB:=Blk.new' (w1.alloc (.cells #[.string ⟨#[102,111,120,32,102,111,120]⟩] 9)) [.bool false,J 7,.slice (some ⟨w1.heap.size,0,none⟩) 1 1] 37 (b:=w1.heap.size+1) (by simp)
 have hWa:=HW1.out.more hka;have hkwa:=Hk1.out.trans (hka.mono fun b hb=>by have:=Hk1.out.size;omega)
 have hXl:X<w1.heap.size∧m<w1.heap.size∧c<w1.heap.size:=by
  obtain⟨_,_,_,_,_,_,g,_⟩:=HW1.out.obj;obtain⟨_,g2,_⟩:=HW1.out.mem;exact⟨g.lt,g2.obj.lt,g2.cells.lt⟩
 generalize hFe:w1.heap.size=FB at*;generalize (w1.alloc (.cells #[.string ⟨#[102,111,120,32,102,111,120]⟩] 9)).alloc (.cells #[.bool false,J 7,.slice (some ⟨FB,0,none⟩) 1 1] 37)=wa0 at*;clear HW1 Hk1 hka;obtain⟨hXl,hml,hcl⟩:=hXl;have hV0:=V0.out;have HFK0:=hid hWa;obtain⟨W1,er0,cs1,⟨n0,hi0⟩,-,-,-,hve0,⟨live1,t1,q1,hh1,hG1⟩,hdo0⟩:=do_good hWa HG0.out HT.out HF.out ⟨false,7,some ⟨FB,0,none⟩,1,[⟨#[102,111,120,32,102,111,120]⟩]⟩
  ⟨(SlAt.of_blkS (K:=fun b=>b=FB) hFB rfl rfl (by show 1≤maxLen;decide)).mono (fun b hb=>by rw[hb];first|exact Or.inr ⟨by omega,by have:=hOB.lt;omega⟩|exact Or.inl (Or.inr ⟨by omega,HFL.out⟩)|exact Or.inl (Or.inl (Or.inr ⟨by omega,HFL.out⟩))|exact Or.inl (Or.inl (Or.inl (Or.inr ⟨by omega,HFL.out⟩)))|exact Or.inl (Or.inl (Or.inl (Or.inl (Or.inr ⟨by omega,HFL.out⟩))))),(show U32 7 by unfold U32;omega),fun x hx=>by have hx:=List.mem_singleton.1 hx;subst hx;exact(by decide:7≤140737488355328)⟩ (show 1≤1000000 by decide) (by omega)
 have hS1:exS1 kk bb=(cs1,W1):=stepS_of (by rw[S0.out];exact HG0.out.last) (by rw[S0.out];exact hi0)
 have hV1:W1.ver=1:=by have h9:=E1.out;rw[hS1]at h9;exact h9
 have S1:=hid hS1;have HG1:=hid hG1;have HDO:=hid hdo0;have HFL:=hid (show FB<wa0.heap.size by have:=hOB.lt;omega)
 unfold OpV.cells at HDO;have hob:=hOB;obtain⟨b0,b1,b2⟩:=hob.c3;clear hob hi0 hve0 hS1 hG1 hdo0 HFK0;have hal:=hOB.lt;have HWa:=hid hWa;have Hkwa:=hid hkwa;have HFB:=hid hFB;have HOB:=hid hOB;have Hal:=hid hal;clear hWa hkwa hFB hOB hal
 go_wp2_with fail
 refine HDO.out.mono ?_;rintro e wa1 ⟨rfl,⟨st1,hWa,-⟩,hkd⟩;have hFB:=HFB.out.keep hkd ⟨by have:=Hal.out;omega,by omega,by omega,by omega⟩
 have hOB:=HOB.out.keep hkd ⟨Hal.out,by omega,by omega,by omega⟩
 have hkwa:=Hkwa.out.trans (hkd.mono fun b hb=>⟨by have:=Hkwa.out.size;omega,by omega,by omega,by omega⟩)
 have hcv:=hWa.ver;rw[hV1]at hcv;clear HDO HWa Hkwa HFB HOB hkd b0 b1 b2 Hal;have HFK1:=hid hWa;obtain⟨W2,er1,cs2,⟨n1,hi1⟩,-,-,-,hve1,⟨live2,t2,q2,hh2,hG2⟩,hdo1⟩:=do_good hWa HG1.out HT.out HF.out ⟨false,7,some ⟨FB,0,none⟩,1,[⟨#[102,111,120,32,102,111,120]⟩]⟩
  ⟨(SlAt.of_blkS (K:=fun b=>b=FB) hFB rfl rfl (by show 1≤maxLen;decide)).mono (fun b hb=>by rw[hb];first|exact Or.inr ⟨by omega,by have:=hOB.lt;omega⟩|exact Or.inl (Or.inr ⟨by omega,HFL.out⟩)|exact Or.inl (Or.inl (Or.inr ⟨by omega,HFL.out⟩))|exact Or.inl (Or.inl (Or.inl (Or.inr ⟨by omega,HFL.out⟩)))|exact Or.inl (Or.inl (Or.inl (Or.inl (Or.inr ⟨by omega,HFL.out⟩))))),(show U32 7 by unfold U32;omega),fun x hx=>by have hx:=List.mem_singleton.1 hx;subst hx;exact(by decide:7≤140737488355328)⟩ (show 1≤1000000 by decide) (by omega)
 have hS2:exS2 kk bb=(cs2,W2):=stepS_of (by rw[S1.out];exact HG1.out.last) (by rw[S1.out];exact hi1)
 have hV2:W2.ver=1:=by have h9:=E2.out;rw[hS2]at h9;exact h9
 have S2:=hid hS2;have HG2:=hid hG2;have HDO:=hid hdo1
 skip
 unfold OpV.cells at HDO;have hob:=hOB;obtain⟨b0,b1,b2⟩:=hob.c3;clear hob hi1 hve1 hS2 hG2 hdo1 HFK1;have hal:=hOB.lt;have HWa:=hid hWa;have Hkwa:=hid hkwa;have HFB:=hid hFB;have HOB:=hid hOB;have Hal:=hid hal;clear hWa hkwa hFB hOB hal
 go_wp2_with fail
 refine HDO.out.mono ?_;rintro e wa2 ⟨rfl,⟨st2,hWa,-⟩,hkd⟩;have hFB:=HFB.out.keep hkd ⟨by have:=Hal.out;omega,by omega,by omega,by omega⟩
 have hOB:=HOB.out.keep hkd ⟨Hal.out,by omega,by omega,by omega⟩
 have hkwa:=Hkwa.out.trans (hkd.mono fun b hb=>⟨by have:=Hkwa.out.size;omega,by omega,by omega,by omega⟩)
 have hcv:=hWa.ver;rw[hV2]at hcv;clear HDO HWa Hkwa HFB HOB hkd b0 b1 b2 Hal;have HFK2:=hid hWa;obtain⟨W3,er2,cs3,⟨n2,hi2⟩,-,-,-,hve2,⟨live3,t3,q3,hh3,hG3⟩,hdo2⟩:=do_good hWa HG2.out HT.out HF.out ⟨true,7,some ⟨FB,0,none⟩,1,[⟨#[102,111,120,32,102,111,120]⟩]⟩
  ⟨(SlAt.of_blkS (K:=fun b=>b=FB) hFB rfl rfl (by show 1≤maxLen;decide)).mono (fun b hb=>by rw[hb];first|exact Or.inr ⟨by omega,by have:=hOB.lt;omega⟩|exact Or.inl (Or.inr ⟨by omega,HFL.out⟩)|exact Or.inl (Or.inl (Or.inr ⟨by omega,HFL.out⟩))|exact Or.inl (Or.inl (Or.inl (Or.inr ⟨by omega,HFL.out⟩)))|exact Or.inl (Or.inl (Or.inl (Or.inl (Or.inr ⟨by omega,HFL.out⟩))))),(show U32 7 by unfold U32;omega),fun x hx=>by have hx:=List.mem_singleton.1 hx;subst hx;exact(by decide:7≤140737488355328)⟩ (show 1≤1000000 by decide) (by omega)
 have hS3:exS3 kk bb=(cs3,W3):=stepS_of (by rw[S2.out];exact HG2.out.last) (by rw[S2.out];exact hi2)
 have hV3:W3.ver=2:=by have h9:=E3.out;rw[hS3]at h9;exact h9
 have S3:=hid hS3;have HG3:=hid hG3;have HDO:=hid hdo2
 skip
 unfold OpV.cells at HDO;have hob:=hOB;obtain⟨b0,b1,b2⟩:=hob.c3;clear hob hi2 hve2 hS3 hG3 hdo2 HFK2;have hal:=hOB.lt;have HWa:=hid hWa;have Hkwa:=hid hkwa;have HFB:=hid hFB;have HOB:=hid hOB;have Hal:=hid hal;clear hWa hkwa hFB hOB hal
 go_wp2_with fail
 refine HDO.out.mono ?_;rintro e wa3 ⟨rfl,⟨st3,hWa,-⟩,hkd⟩;have hFB:=HFB.out.keep hkd ⟨by have:=Hal.out;omega,by omega,by omega,by omega⟩
 have hOB:=HOB.out.keep hkd ⟨Hal.out,by omega,by omega,by omega⟩
 have hkwa:=Hkwa.out.trans (hkd.mono fun b hb=>⟨by have:=Hkwa.out.size;omega,by omega,by omega,by omega⟩)
 have hcv:=hWa.ver;rw[hV3]at hcv;clear HDO HWa Hkwa HFB HOB hkd b0 b1 b2 Hal;have HFK3:=hid hWa;obtain⟨W4,er3,cs4,⟨n3,hi3⟩,-,-,-,hve3,⟨live4,t4,q4,hh4,hG4⟩,hdo3⟩:=do_good hWa HG3.out HT.out HF.out ⟨true,7,some ⟨FB,0,none⟩,1,[⟨#[102,111,120,32,102,111,120]⟩]⟩
  ⟨(SlAt.of_blkS (K:=fun b=>b=FB) hFB rfl rfl (by show 1≤maxLen;decide)).mono (fun b hb=>by rw[hb];first|exact Or.inr ⟨by omega,by have:=hOB.lt;omega⟩|exact Or.inl (Or.inr ⟨by omega,HFL.out⟩)|exact Or.inl (Or.inl (Or.inr ⟨by omega,HFL.out⟩))|exact Or.inl (Or.inl (Or.inl (Or.inr ⟨by omega,HFL.out⟩)))|exact Or.inl (Or.inl (Or.inl (Or.inl (Or.inr ⟨by omega,HFL.out⟩))))),(show U32 7 by unfold U32;omega),fun x hx=>by have hx:=List.mem_singleton.1 hx;subst hx;exact(by decide:7≤140737488355328)⟩ (show 1≤1000000 by decide) (by omega)
 have hS4:exS4 kk bb=(cs4,W4):=stepS_of (by rw[S3.out];exact HG3.out.last) (by rw[S3.out];exact hi3)
 have hV4:W4.ver=2:=by have h9:=E4.out;rw[hS4]at h9;exact h9
 have S4:=hid hS4;have HG4:=hid hG4;have HDO:=hid hdo3
 skip
 unfold OpV.cells at HDO;have hob:=hOB;obtain⟨b0,b1,b2⟩:=hob.c3;clear hob hi3 hve3 hS4 hG4 hdo3 HFK3;have hal:=hOB.lt;have HWa:=hid hWa;have Hkwa:=hid hkwa;have HFB:=hid hFB;have HOB:=hid hOB;have Hal:=hid hal;clear hWa hkwa hFB hOB hal
 go_wp2_with fail
 refine HDO.out.mono ?_;rintro e wa4 ⟨rfl,⟨st4,hWa,-⟩,hkd⟩;have hFB:=HFB.out.keep hkd ⟨by have:=Hal.out;omega,by omega,by omega,by omega⟩
 have hOB:=HOB.out.keep hkd ⟨Hal.out,by omega,by omega,by omega⟩
 have hkwa:=Hkwa.out.trans (hkd.mono fun b hb=>⟨by have:=Hkwa.out.size;omega,by omega,by omega,by omega⟩)
 have hcv:=hWa.ver;rw[hV4]at hcv;clear HDO HWa Hkwa HFB HOB hkd b0 b1 b2 Hal;have Hkwa:=hid hkwa;have HWa:=hid hWa;clear hkwa hWa
 go_wp2_with fail
 exact hR'.out _ _ ⟨rfl,Hkwa.out⟩
def GoodS (C:ConfM)(cs:List Int)(W:WrM):Prop:=∃live s t q hi,Good C C.slabs cs W live s t q hi
theorem OpV.ok.mono {w:World}{K L:Nat→Prop}{o:OpV}(h:o.ok w K)(hL:∀b,K b→L b):o.ok w L:=⟨h.sl.mono hL,h.id,h.sz⟩
theorem law_begin (C:ConfM)(w0 w:World)(hT:PTab w)(hk0:Keeps (· <w0.heap.size) w0 w):
  (∀W,Keeps (· <w.heap.size) w W→PTab W→Z 9 #[.agg C.list.toArray] W fun e w'=>e= .returned (.tuple #[.pointer none,.bool true])∧Keeps (· <W.heap.size) W w')∨
  (C.ok∧C.all≤5000∧GoodS C (newC C) (newW C)∧∀W,Keeps (· <w.heap.size) w W→PTab W→Z 9 #[.agg C.list.toArray] W fun e w'=>∃X m c st,e= .returned (.tuple #[.pointer (some ⟨X,0,none⟩),.bool true])∧
   Wd w0 w' (fun b=>(b<w0.heap.size∨W.heap.size≤b)∧b<w'.heap.size∧b≠X∧b≠m∧b≠c) X m c C (newC C) (newW C) st∧(W.heap.size≤X∧W.heap.size≤m∧W.heap.size≤c)∧Keeps (· <W.heap.size) W w'):=by
 by_cases h:C.ok∧C.all≤5000
 ·by_cases hf:C.plan.size.a5<C.plan.live+2
  ·exact Or.inl fun W _ hT=>begin_full C h hf W hT
  ·exact Or.inr ⟨h.1,h.2,⟨_,_,_,_,_,Good.new C h.1 (by omega) hf⟩,fun W hk hT=>begin_good C h hf w0 W hT (hk0.trans (hk.mono fun b hb=>by have:=hk0.size;omega))⟩
 ·exact Or.inl fun W _ _=>begin_no C h W
end Go.Proofs.YtogdknnkhkjmcaaGreatDoor
namespace Go.Proofs.YtogdknnkhkjmcaaGreatDoor
open Go.RowKit Go.ChangeShapes Go.WideShapes Go.Deep
set_option linter.all false
set_option maxRecDepth 100000
theorem Tryz.cellsC:Tryz.prog.cellsOf 3=1:=by kernel_rfl
theorem Tryz.cellsA4:Tryz.prog.cellsOf 22=4:=by kernel_rfl
theorem Tryz.cellsConf:Tryz.prog.cellsOf 25=10:=by kernel_rfl
section
variable {H:Type}{enc:TypeId×Value→H}{w:World}
theorem open_conf {v:Value}{d:DataW H}{p:List MemPlace}{r:Reach}{b0:Nat}(hv:Value.okWide Tryz.prog w r b0 25 v)
  (h:DataW.Trod enc Tryz.prog w 0 (fun _=>true) true 25 v d p):∃c:ConfM,v= .agg c.list.toArray:=by
 obtain ⟨cs, rfl, hsz⟩ := okWide_struct Tryz.underlying25 hv;rw [Tryz.cellsConf] at hsz;obtain ⟨fuel, h⟩ := h;obtain ⟨xs, n, _, _, hl, hlen, hf⟩ := DataW.trod_struct Tryz.underlying25 h;have f0 := hf 0 (Field.mk "Docs" 3 0 false "" "" 0) rfl;have f1 := hf 1 (Field.mk "Terms" 3 1 false "" "" 8) rfl;have f2 := hf 2 (Field.mk "Slabs" 22 2 false "" "" 16) rfl;have f3 := hf 3 (Field.mk "Book" 3 6 false "" "" 48) rfl
 have f4 := hf 4 (Field.mk "Room" 3 7 false "" "" 56) rfl;have hx : ∀ i, i < 7 → ∃ y, xs[i]? = some y := fun i hi => ⟨_, List.getElem?_eq_getElem (by rw [hlen]; exact hi)⟩
 obtain⟨y0,e0⟩:=hx 0 (by decide)
 obtain⟨y1,e1⟩:=hx 1 (by decide)
 obtain⟨y2,e2⟩:=hx 2 (by decide)
 obtain⟨y3,e3⟩:=hx 3 (by decide)
 obtain⟨y4,e4⟩:=hx 4 (by decide)
 rw[e0]at f0;rw[e1]at f1;rw[e2]at f2;rw[e3]at f3;rw[e4]at f4;have hcs:(Value.agg cs).cells.toList=cs.toList:=rfl;rw[hcs]at f0 f1 f2 f3 f4;obtain⟨l,hle⟩:∃l,l=cs.toList:=⟨_,rfl⟩;rw[←hle]at f0 f1 f2 f3 f4;have hl10:l.length=10:=by rw[hle];simpa using hsz
 obtain⟨c0,c1,c2,c3,c4,c5,c6,c7,c8,c9,hll⟩:∃c0 c1 c2 c3 c4 c5 c6 c7 c8 c9:Value,l=[c0,c1,c2,c3,c4,c5,c6,c7,c8,c9]:=by
  match l,hl10 with
  | [c0,c1,c2,c3,c4,c5,c6,c7,c8,c9],_=>exact⟨c0,c1,c2,c3,c4,c5,c6,c7,c8,c9,rfl⟩
 subst hll;simp only[Tryz.cellsC,Tryz.cellsA4,List.drop_zero,List.take_succ_cons,List.take_zero,List.drop_succ_cons]at f0 f1 f2 f3 f4;obtain⟨a0,g0,_,_⟩:=DataW.trod_int Tryz.underlying3 f0;obtain⟨a1,g1,_,_⟩:=DataW.trod_int Tryz.underlying3 f1;obtain⟨z0,z1,z2,z3,m,_,k0,k1,k2,k3⟩:=trod_array4 Tryz.underlying22 Tryz.cellsC f2;obtain⟨b0,h0,_,_⟩:=DataW.trod_int Tryz.underlying3 k0
 obtain⟨b1,h1,_,_⟩:=DataW.trod_int Tryz.underlying3 k1;obtain⟨b2,h2,_,_⟩:=DataW.trod_int Tryz.underlying3 k2;obtain⟨b3,h3,_,_⟩:=DataW.trod_int Tryz.underlying3 k3;obtain⟨a3,g3,_,_⟩:=DataW.trod_int Tryz.underlying3 f3;obtain⟨a4,g4,_,_⟩:=DataW.trod_int Tryz.underlying3 f4;simp only[List.cons.injEq,and_true]at g0 g1 g3 g4 h0 h1 h2 h3;subst g0 g1 g3 g4 h0 h1 h2 h3;refine⟨⟨a0,a1,b0,b1,b2,b3,a3,a4,c8,c9⟩,?_⟩
 congr 1
 apply Array.ext'
 rw[←hle];rfl
end
section
variable {H:Type}{enc:TypeId×Value→H}{w:World}
theorem weightsAll_mem2 {P:Program}{e:TypeId}:∀{l:List (DataW H)} {d:DataW H},d∈l→∀n∈d.weights P e,n∈DataW.weightsAll P e l
 |d'::r,d,hd,n,hn=>by
  simp only[DataW.weightsAll,List.mem_append]
  rcases List.mem_cons.1 hd with rfl|h
  ·exact Or.inl hn
  ·exact Or.inr (weightsAll_mem2 h n hn)
theorem open_slW {α:Type}(f:α→List Value)(size:Nat)(hs:0<size)(hf:∀x,(f x).length=size)(Q:α→DataW H→Prop){t e:TypeId}{cs0:List Value}{x0:DataW H×List MemPlace}{fuel:Nat}
  (ht:Tryz.prog.underlying t=some (.slice e)) (hC:Tryz.prog.cellsOf e=size)
  (h:DataW.trod enc Tryz.prog w 0 (fun _=>true) true fuel t cs0=some x0)
  (hrd:∀(n:Nat) (cs:List Value) (x:DataW H×List MemPlace),SizeOf.sizeOf x.1<SizeOf.sizeOf x0.1→cs.length=size→DataW.trod enc Tryz.prog w 0 (fun _=>true) true n e cs=some x→∃a:α,f a=cs∧Q a x.1):
  ∃(A:Option Addr) (cap:Nat) (l:List α),cs0=[.slice A l.length cap]∧(∀a∈l,∃D,Q a D∧∀n∈D.weights Tryz.prog e,n∈x0.1.weights Tryz.prog t)∧(l≠[]→∃n,l.length≤n∧n*Tryz.prog.bytesOf e∈x0.1.weights Tryz.prog t)∧SlAt w (· <w.heap.size) size (.slice A l.length cap) l.length (l.flatMap f):=by
 rcases open_slice ht h with⟨h0,_⟩|⟨a,len,cap,m,n,D,Pl,hcs,hb,hl,hm,hmm,hx,hi⟩
 ·exact⟨none,0,[],h0,fun a ha=>(by cases ha),fun h=>absurd rfl h,none,0,rfl,Nat.le_refl _,Nat.zero_le _,by simp,fun hn=>absurd hn (by simp)⟩
 ·simp only[if_true]at hmm;subst hmm;have hx1:x0.1= .slice ((List.range len).map D) ((List.range (m-len)).map fun j=>D (len+j)):=by rw[hx]
  have hmem:∀i,i<len→D i∈(List.range len).map D:=fun i hi=>List.mem_map.2 ⟨i,List.mem_range.2 hi,rfl⟩;have hwt:x0.1.weights Tryz.prog t=(((List.range len).map D).length+((List.range (m-len)).map fun j=>D (len+j)).length)*Tryz.prog.bytesOf e::(DataW.weightsAll Tryz.prog e ((List.range len).map D)++DataW.weightsAll Tryz.prog e ((List.range (m-len)).map fun j=>D (len+j))):=by
   rw[hx1];unfold DataW.weights;rw[ht]
  obtain⟨l,hl1,hl2⟩:=list_of (Q:=fun i x=>Q x (D i)∧∀j u,(f x)[j]? =some u→w.cell? ((a.add (i*size)).add j)=some u) len (fun i hi'=>by
   obtain⟨cs',hc,ht'⟩:=hi i (by omega)
   rw[hC]at hc;obtain⟨_,hcl,hat⟩:=World.cells?_some hc;obtain⟨x,hx1,hx2⟩:=hrd n cs' _ (by
    show SizeOf.sizeOf (D i)<_;have:=List.sizeOf_lt_of_mem (hmem i hi');rw[hx1];simp only[DataW.slice.sizeOf_spec]
    omega) hcl ht'
   refine⟨x,hx2,fun j u hj=>?_⟩;rw[hx1]at hj;have hjl:j<size:=by rw[←hcl];exact(List.getElem?_eq_some_iff.1 hj).1
   rw[hat j hjl,hj])
  refine⟨some a,m,l,by rw[hcs,hl1],fun x hx'=>?_,fun _=>⟨len+(m-len),by omega,?_⟩,some a,m,by rw[hl1],by rw[hl1];exact hl,hm,flat_len f size hf l,fun hn=>?_⟩
  ·obtain⟨i,hi',rfl⟩:=List.getElem_of_mem hx';refine⟨D i,(hl2 i _ (List.getElem?_eq_getElem hi')).1,fun n hn=>?_⟩;rw[hwt];exact List.mem_cons_of_mem _ (List.mem_append_left _ (weightsAll_mem2 (hmem i (by omega)) n hn))
  ·rw[hwt,List.length_map,List.length_map,List.length_range,List.length_range];exact List.mem_cons_self ..
  ·obtain⟨x0,hx0⟩:∃x,l[0]? =some x:=⟨_,List.getElem?_eq_getElem hn⟩;have hsp0:=(hl2 0 x0 hx0).2 0 ((f x0)[0]'(by rw[hf];exact hs)) (List.getElem?_eq_getElem _)
   have hadd:∀(a:Addr) (i j:Nat),(a.add i).add j=a.add (i+j):=fun a i j=>by
    unfold Addr.add
    by_cases hi:i=0<;>by_cases hj:j=0<;>simp[hi,hj,Nat.add_assoc]
   rw[hadd]at hsp0;have hspot:=World.cell?_spot hsp0;obtain⟨b,off,spot⟩:=a;have hspot:spot=none:=by simpa[Addr.add]using hspot
   subst hspot;refine⟨b,off,rfl,?_,fun j u hj=>?_⟩
   ·have:=World.block_lt_of_cell? _ _ hsp0
    simpa[Addr.add]using this
   ·obtain⟨x,hx1,hx2⟩:=flat_get f size hs hf l j u hj;have:=(hl2 _ x hx1).2 _ u hx2;rw[hadd,Nat.div_add_mod' j size]at this;rw[←this]
    simp[Addr.add]
    try(by_cases hj0:j=0<;>simp[hj0])
theorem Tryz.cellsOp:Tryz.prog.cellsOf 37=3:=by kernel_rfl
theorem Tryz.cellsStr:Tryz.prog.cellsOf 9=1:=by kernel_rfl
theorem strs_flat:∀l:List ByteArray,l.flatMap (fun x:ByteArray=>[Value.string x])=l.map Value.string
 | []=>rfl
 |x::l=>by rw[List.flatMap_cons,strs_flat l];rfl
theorem read_op (n:Nat)(cs:List Value)(x:DataW H×List MemPlace)(hl:cs.length=3)
  (h:DataW.trod enc Tryz.prog w 0 (fun _=>true) true n 37 cs=some x):∃o:OpV,o.cells=cs∧((∀m∈x.1.weights Tryz.prog 37,m≤140737488355328)→o.ok w (· <w.heap.size)):=by
 obtain⟨xs,n',_,hx,_,hlen,hf⟩:=DataW.trod_struct Tryz.underlying37 h
 match xs,hlen with
 | [y0,y1],_=>
 match cs,hl with
 | [b0,b1,b2],_=>
  have f0:DataW.trod enc Tryz.prog w 0 (fun _=>true) true n' 4 [b0]=some y0:=hf 0 _ rfl;have f1:DataW.trod enc Tryz.prog w 0 (fun _=>true) true n' 35 [b1,b2]=some y1:=hf 1 _ rfl;obtain⟨del,e0,_⟩:=DataW.trod_bool Tryz.underlying4 f0;obtain⟨zs,n'',_,hz,_,hzl,hg⟩:=DataW.trod_struct Tryz.underlying35 f1
  match zs,hzl with
  | [z0,z1],_=>
   have g0:DataW.trod enc Tryz.prog w 0 (fun _=>true) true n'' 32 [b1]=some z0:=hg 0 _ rfl;have g1:DataW.trod enc Tryz.prog w 0 (fun _=>true) true n'' 33 [b2]=some z1:=hg 1 _ rfl;obtain⟨id,e1,_,w1⟩:=DataW.trod_int Tryz.underlying32 g0;obtain⟨A,c,fs,e2,q2,_,s2⟩:=open_slW (fun x:ByteArray=>[Value.string x]) 1 (by decide) (fun _=>rfl) (fun a D=>D= .lit (.string a.data.toList)) Tryz.underlying33 Tryz.cellsStr g1 (fun n cs x _ hl hx=>by
    obtain⟨a,u1,u2,_⟩:=DataW.trod_string Tryz.underlying9 hx;exact⟨a,u1.symm,by rw[u2]⟩)
   rw[strs_flat]at s2;injection e0 with e0
   injection e1 with e1
   injection e2 with e2
   subst e0 e1 e2;refine⟨⟨del,id,A,c,fs⟩,rfl,fun hb=>⟨s2,bounds_u32 w1,fun a ha=>?_⟩⟩;obtain⟨D,rfl,hD⟩:=q2 a ha;refine hb _ ?_;have k1:a.size∈z1.1.weights Tryz.prog 33:=hD _ (by
    conv=>arg 1;unfold DataW.weights
    rw[List.mem_singleton];exact(Array.length_toList).symm)
   rw[hx]
   conv=>arg 1;unfold DataW.weights
   rw[Tryz.underlying37];show a.size∈DataW.weightsEach Tryz.prog [4,35] [y0.1,y1.1];simp only[DataW.weightsEach,List.mem_append];refine Or.inr (Or.inl ?_);rw[hz]
   conv=>arg 1;unfold DataW.weights
   rw[Tryz.underlying35];show a.size∈DataW.weightsEach Tryz.prog [32,33] [z0.1,z1.1];simp only[DataW.weightsEach,List.mem_append];exact Or.inr (Or.inl k1)
theorem open_ops {v:Value}{d:DataW H}{p:List MemPlace}{r:Reach}{b0:Nat}(hv:Value.okWide Tryz.prog w r b0 26 v)
  (h:DataW.Trod enc Tryz.prog w 0 (fun _=>true) true 26 v d p):
  ∃(A:Option Addr) (c:Nat) (ops:List OpV),v= .slice A ops.length c∧((∀m∈d.weights Tryz.prog 26,m≤140737488355328)→∀o∈ops,o.ok w (· <w.heap.size))∧SlAt w (· <w.heap.size) 3 (.slice A ops.length c) ops.length (ops.flatMap OpV.cells):=by
 obtain⟨a0,len,cap,rfl⟩:=okWide_slice Tryz.underlying26 hv;obtain⟨fuel,h⟩:=h;obtain⟨A,c,l,e1,q1,_,s1⟩:=open_slW OpV.cells 3 (by decide) (fun _=>rfl) (fun o D=>(∀m∈D.weights Tryz.prog 37,m≤140737488355328)→o.ok w (· <w.heap.size)) Tryz.underlying26 Tryz.cellsOp h (fun n cs x _ hl hx=>read_op n cs x hl hx)
 refine⟨A,c,l,?_,fun hb o ho=>?_,s1⟩
 ·injection e1
 ·obtain⟨D,h1,h2⟩:=q1 o ho;exact h1 fun m hm=>hb m (h2 m hm)
end
theorem pTab_of {W : World} {l : List (String × DataW Unit)} (h : laidMet Tryz.prog l W) (m1 : ("plover/pool.sizes", Rows.laid_plover_pool_sizes) ∈ l) : PTab W := by
 obtain ⟨ps, hv, _⟩ := h;obtain ⟨g1, t1, cs1, fu1, p1, a1, b1, c1, d1⟩ := laid_mem hv m1;obtain rfl : 0 = g1 := Option.some.inj ((show Tryz.prog.globalNamed "plover/pool.sizes" = some 0 by kernel_rfl).symm.trans a1)
 obtain rfl:22=t1:=Option.some.inj ((show(Tryz.prog.globals[0]?).map (·.type)=some 22 by kernel_rfl).symm.trans b1)
 have e1:cs1.toList=[4,16,64,256].map (Value.int .i64):=cells_of_arr (f:=fun a:Int=>DataW.lit (.int .i64 a)) (g:=fun a:Int=>[Value.int .i64 a]) (xs:=[4,16,64,256]) Tryz.underlying22 (m:=1) (by kernel_rfl) (by kernel_rfl) (by decide) (fun _ _ x _ hx=>by
  obtain⟨z0,u0,v0,_⟩:=DataW.trod_int Tryz.underlying3 hx;injection v0 with v0 _
  injection v0 with v0
  injection v0 with _ v0
  rw[u0,v0]) (fun _=>rfl) d1
 obtain⟨r1,s1⟩:=var_rangeAt a1 c1;rw[e1]at r1;have n1:0<cs1.size:=by rw[←Array.length_toList,e1];decide
 exact⟨r1 0 _ rfl,r1 1 _ rfl,r1 2 _ rfl,r1 3 _ rfl,s1 n1⟩
noncomputable def laidWorld12 (os:Os):World:=
 { laidWorld os with heap:=(laidWorld os).heap.modify 0 (layO #[.int .i64 4,.int .i64 16,.int .i64 64,.int .i64 256]) }
end Go.Proofs.YtogdknnkhkjmcaaGreatDoor
