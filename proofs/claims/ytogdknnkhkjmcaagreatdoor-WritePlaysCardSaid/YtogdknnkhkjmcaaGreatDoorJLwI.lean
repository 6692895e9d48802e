/- Layer 12's statements: the chapter's example. Printed by gen/lwh.py. -/
import Derived.Test.YtogdknnkhkjmcaaGreatDoorJLwF
namespace Go.Proofs.YtogdknnkhkjmcaaGreatDoor
open Go.RowKit
set_option linter.all false
theorem Wd.more {w0 w w':World}{K:Nat→Prop}{X m c:Nat}{C:ConfM}{cs:List Int}{W:WrM}{st:Int}(h:Wd w0 w K X m c C cs W st)(k:Keeps (· <w.heap.size) w w'):Wd w0 w' (fun b=>K b∨(w.heap.size≤b∧b<w'.heap.size)) X m c C cs W st:=by
 obtain⟨SA,sc,CA,cc,TA,tc,h1,h2,h3,h4⟩:=h.obj;obtain⟨μ,m1,m2,m3⟩:=h.mem;have hl:=h1.lt;have hm:=m1.obj.lt;have hc:=m1.cells.lt;have hs:=k.size;have h00:=h.kp.size;exact⟨⟨SA,sc,CA,cc,TA,tc,h1.keep k hl,(h2.keep k h.lt).mono fun b hb=>Or.inl hb,(h3.keep k h.lt).mono fun b hb=>Or.inl hb,(h4.keep k h.lt).mono fun b hb=>Or.inl hb⟩,⟨μ,m1.keep k hm hc,m2,m3⟩,
  fun hb=>hb.elim h.kx (fun g=>by omega),fun hb=>hb.elim h.km (fun g=>by omega),fun hb=>hb.elim h.kc (fun g=>by omega),fun b hb=>hb.elim (fun g=>by have:=h.lt b g;omega) (fun g=>g.2),h.xm,h.xc,fun b hb=>Or.inl (h.k0 b hb),h.kp.trans (k.mono fun b hb=>by omega)⟩
theorem Wd.ver {w0 w:World}{K:Nat→Prop}{X m c:Nat}{C:ConfM}{cs:List Int}{W:WrM}{st:Int}(h:Wd w0 w K X m c C cs W st):w.cell? ⟨X,28,none⟩=some (J W.ver):=by
 obtain⟨SA,sc,CA,cc,TA,tc,h1,_⟩:=h.obj;exact(h1.cell 28).trans (x_get26 2 _ rfl)
theorem exC_ok (kk bb:Value):(exC kk bb).ok∧(exC kk bb).all≤5000∧¬(exC kk bb).plan.size.a5<(exC kk bb).plan.live+2:=by
 have h1:(exC kk bb).plan.live=137:=rfl;have h2:(exC kk bb).plan.size.a5=200:=rfl;have h3:(exC kk bb).all=247:=rfl;exact⟨⟨(by decide:(1:Int)≤2),(by decide:(2:Int)≤64),(by decide:(64:Int)≤64),(by decide:(64:Int)≤256),(by decide:(0:Int)≤2),(by decide:(2:Int)≤512),(by decide:(0:Int)≤1),(by decide:(1:Int)≤512),(by decide:(0:Int)≤0),(by decide:(0:Int)≤512),(by decide:(0:Int)≤0),(by decide:(0:Int)≤512),(by decide:(0:Int)≤20),(by decide:(20:Int)≤65536),(by decide:(0:Int)≤200),(by decide:(200:Int)≤65536)⟩,by omega,by omega⟩
set_option maxRecDepth 100000 in
set_option maxHeartbeats 4000000 in
theorem law_fixed {w0 w:World}(hT:PTab w0)(hF:FoldTab w0)(hk:Keeps (· <w0.heap.size) w0 w):Calls Tryz.prog 10 #[] w fun e w'=>e= .returned (.bool true)∧Keeps (· <w.heap.size) w w':=by
 obtain⟨kk,bb,hkb⟩:∃kk bb,kk=Value.float .f64 0∧bb=Value.float .f64 0:=⟨_,_,rfl,rfl⟩;obtain⟨x1,x2,x3⟩:=exC_ok kk bb;have hbeg:=begin_good (exC kk bb) ⟨x1,x2⟩ x3 w0 w (hT.keep (K:=(· <w0.heap.size)) hk hT.2.2.2.2) hk;have hG0:=Good.new (exC kk bb) x1 (by omega) x3
 obtain⟨hk1',hk2'⟩:=hkb;have hlist:(exC kk bb).list=[I 2,I 64,I 2,I 1,I 0,I 0,I 20,I 200,.float .f64 0,.float .f64 0]:=by rw[hk1',hk2'];rfl
 rw[hlist]at hbeg;have HBEG:=hid hbeg;have HG0:=hid hG0;have HT:=hid hT;have HF:=hid hF;have E1:=hid (ex_1 kk bb);have E2:=hid (ex_2 kk bb);have E3:=hid (ex_3 kk bb);have E4:=hid (ex_4 kk bb);have S0:=hid (show exS0 kk bb=(newC (exC kk bb),newW (exC kk bb))from rfl)
 have V0:=hid (show(newW (exC kk bb)).ver=0 from rfl)
 clear hT hF hk x1 x2 x3 hbeg hG0 hlist hk1' hk2';refine calls_hide fun R' hR'=>?_
 go_enter Tryz.func10,Tryz.ntmps10
 go_wp2_with fail
 refine HBEG.out.mono ?_;rintro e w1 ⟨X,m,c,st0,rfl,hW1,⟨hgX,hgm,hgc⟩,hk1⟩;clear HBEG;generalize newC (exC kk bb)=cs0 at*;generalize newW (exC kk bb)=W0 at*;have HW1:=hid hW1;have Hk1:=hid hk1;clear hW1 hk1
 go_upto_region 5 with fail
 have hka:Keeps (· <w1.heap.size) w1 ((w1.alloc (.cells #[.string ⟨#[102,111,120,32,102,111,120]⟩] 9)).alloc (.cells #[.bool false,J 7,.slice (some ⟨w1.heap.size,0,none⟩) 1 1] 37)):=((Keeps.refl _ _).alloc (fun b hb=>hb) _).alloc (fun b hb=>by have hb:b<w1.heap.size:=hb;simp;omega) _
 have hFB:=(Blk.new w1 [.string ⟨#[102,111,120,32,102,111,120]⟩] 9).alloc (.cells #[.bool false,J 7,.slice (some ⟨w1.heap.size,0,none⟩) 1 1] 37);have hOB:=Blk.new' (w1.alloc (.cells #[.string ⟨#[102,111,120,32,102,111,120]⟩] 9)) [.bool false,J 7,.slice (some ⟨w1.heap.size,0,none⟩) 1 1] 37 (b:=w1.heap.size+1) (by simp)
 have hWa:=HW1.out.more hka;have hkwa:=Hk1.out.trans (hka.mono fun b hb=>by have:=Hk1.out.size;omega)
 have hXl:X<w1.heap.size∧m<w1.heap.size∧c<w1.heap.size:=by
  obtain⟨_,_,_,_,_,_,g,_⟩:=HW1.out.obj;obtain⟨_,g2,_⟩:=HW1.out.mem;exact⟨g.lt,g2.obj.lt,g2.cells.lt⟩
 generalize hFe:w1.heap.size=FB at*;generalize (w1.alloc (.cells #[.string ⟨#[102,111,120,32,102,111,120]⟩] 9)).alloc (.cells #[.bool false,J 7,.slice (some ⟨FB,0,none⟩) 1 1] 37)=wa0 at*;clear HW1 Hk1 hka;obtain⟨hXl,hml,hcl⟩:=hXl;have hV0:=V0.out;have HFK0:=hid hWa;obtain⟨W1,er0,cs1,⟨n0,hi0⟩,-,-,-,hve0,⟨live1,t1,q1,hh1,hG1⟩,hdo0⟩:=do_good hWa HG0.out HT.out HF.out ⟨false,7,some ⟨FB,0,none⟩,1,[⟨#[102,111,120,32,102,111,120]⟩]⟩
  ⟨(SlAt.of_blkS (K:=fun b=>b=FB) hFB rfl rfl (by show 1≤maxLen;decide)).mono (fun b hb=>by rw[hb];first|exact Or.inr ⟨by omega,by have:=hOB.lt;omega⟩|exact Or.inl (Or.inr ⟨by omega,HFL.out⟩)|exact Or.inl (Or.inl (Or.inr ⟨by omega,HFL.out⟩))|exact Or.inl (Or.inl (Or.inl (Or.inr ⟨by omega,HFL.out⟩)))|exact Or.inl (Or.inl (Or.inl (Or.inl (Or.inr ⟨by omega,HFL.out⟩))))),(show U32 7 by unfold U32;omega),fun x hx=>by have hx:=List.mem_singleton.1 hx;subst hx;exact(by decide:7≤140737488355328)⟩ (show 1≤1000000 by decide) (by omega)
 have hS1:exS1 kk bb=(cs1,W1):=stepS_of (by rw[S0.out];exact HG0.out.last) (by rw[S0.out];exact hi0)
 have hV1:W1.ver=1:=by have h9:=E1.out;rw[hS1]at h9;exact h9
 have S1:=hid hS1;have HG1:=hid hG1;have HDO:=hid hdo0;have HFL:=hid (show FB<wa0.heap.size by have:=hOB.lt;omega)
 unfold OpV.cells at HDO;have hob:=hOB;obtain⟨b0,b1,b2⟩:=hob.c3;clear hob hi0 hve0 hS1 hG1 hdo0 HFK0;have hal:=hOB.lt;have HWa:=hid hWa;have Hkwa:=hid hkwa;have HFB:=hid hFB;have HOB:=hid hOB;have Hal:=hid hal;clear hWa hkwa hFB hOB hal
 go_wp2_with fail
 refine HDO.out.mono ?_;rintro e wa1 ⟨rfl,⟨st1,hWa,-⟩,hkd⟩;have hFB:=HFB.out.keep hkd ⟨by have:=Hal.out;omega,by omega,by omega,by omega⟩
 have hOB:=HOB.out.keep hkd ⟨Hal.out,by omega,by omega,by omega⟩
 have hkwa:=Hkwa.out.trans (hkd.mono fun b hb=>⟨by have:=Hkwa.out.size;omega,by omega,by omega,by omega⟩)
 have hcv:=hWa.ver;rw[hV1]at hcv;clear HDO HWa Hkwa HFB HOB hkd b0 b1 b2 Hal;have HFK1:=hid hWa;obtain⟨W2,er1,cs2,⟨n1,hi1⟩,-,-,-,hve1,⟨live2,t2,q2,hh2,hG2⟩,hdo1⟩:=do_good hWa HG1.out HT.out HF.out ⟨false,7,some ⟨FB,0,none⟩,1,[⟨#[102,111,120,32,102,111,120]⟩]⟩
  ⟨(SlAt.of_blkS (K:=fun b=>b=FB) hFB rfl rfl (by show 1≤maxLen;decide)).mono (fun b hb=>by rw[hb];first|exact Or.inr ⟨by omega,by have:=hOB.lt;omega⟩|exact Or.inl (Or.inr ⟨by omega,HFL.out⟩)|exact Or.inl (Or.inl (Or.inr ⟨by omega,HFL.out⟩))|exact Or.inl (Or.inl (Or.inl (Or.inr ⟨by omega,HFL.out⟩)))|exact Or.inl (Or.inl (Or.inl (Or.inl (Or.inr ⟨by omega,HFL.out⟩))))),(show U32 7 by unfold U32;omega),fun x hx=>by have hx:=List.mem_singleton.1 hx;subst hx;exact(by decide:7≤140737488355328)⟩ (show 1≤1000000 by decide) (by omega)
 have hS2:exS2 kk bb=(cs2,W2):=stepS_of (by rw[S1.out];exact HG1.out.last) (by rw[S1.out];exact hi1)
 have hV2:W2.ver=1:=by have h9:=E2.out;rw[hS2]at h9;exact h9
 have S2:=hid hS2;have HG2:=hid hG2;have HDO:=hid hdo1
 skip
 unfold OpV.cells at HDO;have hob:=hOB;obtain⟨b0,b1,b2⟩:=hob.c3;clear hob hi1 hve1 hS2 hG2 hdo1 HFK1;have hal:=hOB.lt;have HWa:=hid hWa;have Hkwa:=hid hkwa;have HFB:=hid hFB;have HOB:=hid hOB;have Hal:=hid hal;clear hWa hkwa hFB hOB hal
 go_wp2_with fail
 refine HDO.out.mono ?_;rintro e wa2 ⟨rfl,⟨st2,hWa,-⟩,hkd⟩;have hFB:=HFB.out.keep hkd ⟨by have:=Hal.out;omega,by omega,by omega,by omega⟩
 have hOB:=HOB.out.keep hkd ⟨Hal.out,by omega,by omega,by omega⟩
 have hkwa:=Hkwa.out.trans (hkd.mono fun b hb=>⟨by have:=Hkwa.out.size;omega,by omega,by omega,by omega⟩)
 have hcv:=hWa.ver;rw[hV2]at hcv;clear HDO HWa Hkwa HFB HOB hkd b0 b1 b2 Hal;have HFK2:=hid hWa;obtain⟨W3,er2,cs3,⟨n2,hi2⟩,-,-,-,hve2,⟨live3,t3,q3,hh3,hG3⟩,hdo2⟩:=do_good hWa HG2.out HT.out HF.out ⟨true,7,some ⟨FB,0,none⟩,1,[⟨#[102,111,120,32,102,111,120]⟩]⟩
  ⟨(SlAt.of_blkS (K:=fun b=>b=FB) hFB rfl rfl (by show 1≤maxLen;decide)).mono (fun b hb=>by rw[hb];first|exact Or.inr ⟨by omega,by have:=hOB.lt;omega⟩|exact Or.inl (Or.inr ⟨by omega,HFL.out⟩)|exact Or.inl (Or.inl (Or.inr ⟨by omega,HFL.out⟩))|exact Or.inl (Or.inl (Or.inl (Or.inr ⟨by omega,HFL.out⟩)))|exact Or.inl (Or.inl (Or.inl (Or.inl (Or.inr ⟨by omega,HFL.out⟩))))),(show U32 7 by unfold U32;omega),fun x hx=>by have hx:=List.mem_singleton.1 hx;subst hx;exact(by decide:7≤140737488355328)⟩ (show 1≤1000000 by decide) (by omega)
 have hS3:exS3 kk bb=(cs3,W3):=stepS_of (by rw[S2.out];exact HG2.out.last) (by rw[S2.out];exact hi2)
 have hV3:W3.ver=2:=by have h9:=E3.out;rw[hS3]at h9;exact h9
 have S3:=hid hS3;have HG3:=hid hG3;have HDO:=hid hdo2
 skip
 unfold OpV.cells at HDO;have hob:=hOB;obtain⟨b0,b1,b2⟩:=hob.c3;clear hob hi2 hve2 hS3 hG3 hdo2 HFK2;have hal:=hOB.lt;have HWa:=hid hWa;have Hkwa:=hid hkwa;have HFB:=hid hFB;have HOB:=hid hOB;have Hal:=hid hal;clear hWa hkwa hFB hOB hal
 go_wp2_with fail
 refine HDO.out.mono ?_;rintro e wa3 ⟨rfl,⟨st3,hWa,-⟩,hkd⟩;have hFB:=HFB.out.keep hkd ⟨by have:=Hal.out;omega,by omega,by omega,by omega⟩
 have hOB:=HOB.out.keep hkd ⟨Hal.out,by omega,by omega,by omega⟩
 have hkwa:=Hkwa.out.trans (hkd.mono fun b hb=>⟨by have:=Hkwa.out.size;omega,by omega,by omega,by omega⟩)
 have hcv:=hWa.ver;rw[hV3]at hcv;clear HDO HWa Hkwa HFB HOB hkd b0 b1 b2 Hal;have HFK3:=hid hWa;obtain⟨W4,er3,cs4,⟨n3,hi3⟩,-,-,-,hve3,⟨live4,t4,q4,hh4,hG4⟩,hdo3⟩:=do_good hWa HG3.out HT.out HF.out ⟨true,7,some ⟨FB,0,none⟩,1,[⟨#[102,111,120,32,102,111,120]⟩]⟩
  ⟨(SlAt.of_blkS (K:=fun b=>b=FB) hFB rfl rfl (by show 1≤maxLen;decide)).mono (fun b hb=>by rw[hb];first|exact Or.inr ⟨by omega,by have:=hOB.lt;omega⟩|exact Or.inl (Or.inr ⟨by omega,HFL.out⟩)|exact Or.inl (Or.inl (Or.inr ⟨by omega,HFL.out⟩))|exact Or.inl (Or.inl (Or.inl (Or.inr ⟨by omega,HFL.out⟩)))|exact Or.inl (Or.inl (Or.inl (Or.inl (Or.inr ⟨by omega,HFL.out⟩))))),(show U32 7 by unfold U32;omega),fun x hx=>by have hx:=List.mem_singleton.1 hx;subst hx;exact(by decide:7≤140737488355328)⟩ (show 1≤1000000 by decide) (by omega)
 have hS4:exS4 kk bb=(cs4,W4):=stepS_of (by rw[S3.out];exact HG3.out.last) (by rw[S3.out];exact hi3)
 have hV4:W4.ver=2:=by have h9:=E4.out;rw[hS4]at h9;exact h9
 have S4:=hid hS4;have HG4:=hid hG4;have HDO:=hid hdo3
 skip
 unfold OpV.cells at HDO;have hob:=hOB;obtain⟨b0,b1,b2⟩:=hob.c3;clear hob hi3 hve3 hS4 hG4 hdo3 HFK3;have hal:=hOB.lt;have HWa:=hid hWa;have Hkwa:=hid hkwa;have HFB:=hid hFB;have HOB:=hid hOB;have Hal:=hid hal;clear hWa hkwa hFB hOB hal
 go_wp2_with fail
 refine HDO.out.mono ?_;rintro e wa4 ⟨rfl,⟨st4,hWa,-⟩,hkd⟩;have hFB:=HFB.out.keep hkd ⟨by have:=Hal.out;omega,by omega,by omega,by omega⟩
 have hOB:=HOB.out.keep hkd ⟨Hal.out,by omega,by omega,by omega⟩
 have hkwa:=Hkwa.out.trans (hkd.mono fun b hb=>⟨by have:=Hkwa.out.size;omega,by omega,by omega,by omega⟩)
 have hcv:=hWa.ver;rw[hV4]at hcv;clear HDO HWa Hkwa HFB HOB hkd b0 b1 b2 Hal;have Hkwa:=hid hkwa;have HWa:=hid hWa;clear hkwa hWa
 go_wp2_with fail
 exact hR'.out _ _ ⟨rfl,Hkwa.out⟩
def GoodS (C:ConfM)(cs:List Int)(W:WrM):Prop:=∃live s t q hi,Good C C.slabs cs W live s t q hi
theorem OpV.ok.mono {w:World}{K L:Nat→Prop}{o:OpV}(h:o.ok w K)(hL:∀b,K b→L b):o.ok w L:=⟨h.sl.mono hL,h.id,h.sz⟩
theorem law_begin (C:ConfM)(w0 w:World)(hT:PTab w)(hk0:Keeps (· <w0.heap.size) w0 w):
  (∀W,Keeps (· <w.heap.size) w W→PTab W→Calls Tryz.prog 9 #[.agg C.list.toArray] W fun e w'=>e= .returned (.tuple #[.pointer none,.bool true])∧Keeps (· <W.heap.size) W w')∨
  (C.ok∧C.all≤5000∧GoodS C (newC C) (newW C)∧∀W,Keeps (· <w.heap.size) w W→PTab W→Calls Tryz.prog 9 #[.agg C.list.toArray] W fun e w'=>∃X m c st,e= .returned (.tuple #[.pointer (some ⟨X,0,none⟩),.bool true])∧
   Wd w0 w' (fun b=>b<w'.heap.size∧b≠X∧b≠m∧b≠c) X m c C (newC C) (newW C) st∧(W.heap.size≤X∧W.heap.size≤m∧W.heap.size≤c)∧Keeps (· <W.heap.size) W w'):=by
 by_cases h:C.ok∧C.all≤5000
 ·by_cases hf:C.plan.size.a5<C.plan.live+2
  ·exact Or.inl fun W _ hT=>begin_full C h hf W hT
  ·exact Or.inr ⟨h.1,h.2,⟨_,_,_,_,_,Good.new C h.1 (by omega) hf⟩,fun W hk hT=>begin_good C h hf w0 W hT (hk0.trans (hk.mono fun b hb=>by have:=hk0.size;omega))⟩
 ·exact Or.inl fun W _ _=>begin_no C h W
set_option maxRecDepth 100000 in
set_option maxHeartbeats 4000000 in
theorem law_plays (C:ConfM)(ops:List OpV)(A:Option Addr)(c:Nat)(w:World)(hT:PTab w)(hF:FoldTab w)(hsl:SlAt w (· <w.heap.size) 3 (.slice A ops.length c) ops.length (ops.flatMap OpV.cells))(ho:∀o∈ops,o.ok w (· <w.heap.size)):
  Calls Tryz.prog 3 #[.agg C.list.toArray,.slice A ops.length c] w fun e w'=>e= .returned (.bool true)∧Keeps (· <w.heap.size) w w':=by
 have hbeg:=law_begin C w w hT (Keeps.refl _ _);have hfix:=fun W (hk:Keeps (· <w.heap.size) w W)=>law_fixed (w0:=w) (w:=W) hT hF hk;have hlig:=fun W (hk:Keeps (· <w.heap.size) w W)=>law_light ops A c W (· <w.heap.size) (fun b hb=>Nat.lt_of_lt_of_le hb hk.size) (hsl.keep hk fun b hb=>hb) (fun o h=>(ho o h).keep hk fun b hb=>hb);obtain⟨A',cap,e1,e2,e3,e4,e5⟩:=hsl
 injection e1 with e1 _ e1c
 subst e1 e1c;have H5:=hid e5;have HO:=hid ho;have HT:=hid hT;have HF:=hid hF;have HFIX:=hid hfix;have HLIG:=hid hlig;obtain⟨docs,terms,q0,q1,q2,q3,book,room,kk,bb,hcfe⟩:∃docs terms q0 q1 q2 q3 book room kk bb,C=⟨docs,terms,q0,q1,q2,q3,book,room,kk,bb⟩:=⟨_,_,_,_,_,_,_,_,_,_,rfl⟩;have hcli:C.list=[I docs,I terms,I q0,I q1,I q2,I q3,I book,I room,kk,bb]:=by rw[hcfe];rfl
 rw[hcli]at hbeg ⊢;have HBEG:=hid hbeg;clear hT hF ho e3 e4 e5 hfix hlig hbeg hcli hcfe;refine calls_hide fun R' hR'=>?_
 go_enter Tryz.func3,Tryz.ntmps3
 go_wp2_with fail
 refine calls_gen (fun W0=>Keeps (· <w.heap.size) w W0) ((Keeps.refl _ _).alloc (fun b hb=>hb) _) (fun w1 hk1=>?_);have hT1:=HT.out.keep (K:=(· <w.heap.size)) hk1 HT.out.2.2.2.2
 rcases HBEG.out with hno|⟨h1,h2,h3,hgo⟩
 ·refine(hno w1 hk1 hT1).mono ?_;rintro e w2 ⟨rfl,hk2⟩;have hk2w:Keeps (· <w.heap.size) w w2:=hk1.trans (hk2.mono fun b hb=>by have:=hk1.size;omega)
  clear hno hk1 hk2 hT1;have Hk2w:=hid hk2w;clear hk2w
  go_wp2_with fail
  refine(HFIX.out w2 Hk2w.out).mono ?_;rintro e w3 ⟨rfl,hk3⟩;have hk3w:Keeps (· <w.heap.size) w w3:=Hk2w.out.trans (hk3.mono fun b hb=>by have:=Hk2w.out.size;omega)
  clear Hk2w hk3;have Hk3w:=hid hk3w;clear hk3w
  go_wp2_with fail
  exact hR'.out _ _ ⟨rfl,Hk3w.out⟩
 ·refine(hgo w1 hk1 hT1).mono ?_;rintro e w2 ⟨X,m,cb,st,rfl,hW,hge,hk2⟩;have hk2w:Keeps (· <w.heap.size) w w2:=hk1.trans (hk2.mono fun b hb=>by have:=hk1.size;omega)
  clear hgo hk1 hk2 hT1 hge;have H3:=hid h3;clear h3;have Hk2w:=hid hk2w;have HW:=hid hW;clear hk2w hW
  go_wp2_with fail
  refine(HLIG.out w2 Hk2w.out).mono ?_;rintro e w3 ⟨⟨k,c',hkl,rfl⟩,hk3⟩;have hW3:=HW.out.more hk3;have hV0:(newW C).ver=0:=rfl;clear HW Hk2w hk3 HLIG;generalize newC C=cs0 at*;generalize newW C=W0 at*;have HEND:=hid (show∀wx K cs W st,Wd w wx K X m cb C cs W st→Calls Tryz.prog 10 #[] wx fun e w'=>e= .returned (.bool true)∧Keeps (· <w.heap.size) w w' from fun wx K cs W st hw=>(HFIX.out wx hw.kp).mono fun e w' h=>⟨h.1,hw.kp.trans (h.2.mono fun b hb=>by have:=hw.kp.size;omega)⟩)
  clear HFIX;have HW3:=hid hW3;clear hW3
  go_wp2_with fail
  go_loopw[27] (fun iv wx=>∃(i:Nat) (K:Nat→Prop) (cs:List Int) (W:WrM) (st:Int),iv=I (i:Int)∧i≤k∧i≤31∧Hid (GoodS C cs W)∧W.ver≤(i:Int)∧Hid (Wd w wx K X m cb C cs W st)) (fun iv _=>k-(intOf iv).toNat)
  case atStart=>exact⟨0,_,cs0,W0,st,rfl,Nat.zero_le _,by decide,H3,by rw[hV0];exact Int.le_refl _,HW3⟩
  case round=>
   clear HW3 H3 hV0;obtain⟨i,K,cs,W,st1,rfl,hi,hi31,HG,hver,HWr⟩:=hrel
   by_cases hlt:i<k
   ·have hltI:(i:Int)<(k:Int):=by omega
    obtain⟨b,off,rfl,hkb,hc⟩:=H5.out (by omega)
    have hkb:b<w.heap.size:=hkb;obtain⟨o,hoi⟩:∃o,ops[i]? =some o:=⟨_,List.getElem?_eq_getElem (by omega)⟩
    obtain⟨p0,p1,p2⟩:=opv_at ops i o hoi;have hbl:=HWr.out.kp.block b hkb;have zz54:=@c328;exact c326
   ·obtain rfl:i=k:=by omega
    have hltI:¬(i:Int)<(i:Int):=by omega
    go_wp2_with fail
    refine(HEND.out wr _ _ _ _ HWr.out).mono ?_;exact c107
end Go.Proofs.YtogdknnkhkjmcaaGreatDoor
