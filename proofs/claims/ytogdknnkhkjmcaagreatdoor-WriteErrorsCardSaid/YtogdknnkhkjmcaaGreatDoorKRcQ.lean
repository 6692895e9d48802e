/- Lemmas on the programs that the statement reaches. -/
import Derived.Test.YtogdknnkhkjmcaaGreatDoorKRcK
import Derived.Test.YtogdknnkhkjmcaaGreatDoorKRcM
namespace Go.Proofs.YtogdknnkhkjmcaaGreatDoor
open Go.RowKit
set_option linter.all false
theorem ref9_put (cs:List Int)(p:PlanM)(P:Pools)(hP:P.ok)(hl:p.lays P)(u:V6)(t:Nat)(wd:Int)(cs2:List Int)(t2:Nat)(u2:V6)(A:Option Addr)(cp:Nat)(w:World)(K:Nat→Prop)(hb:∀b,K b→b<w.heap.size)(hsl:SlAt w K 1 (.slice A cs.length cp) cs.length (cs.map (Value.int .u32)))(hn0:0<cs.length)(hn:cs.length≤65536)
  (ht:t<cs.length) (hp:PutsTo p cs u t wd cs2 t2 u2):
  Z 95 #[.slice A cs.length cp,p.val,u.val,I (t:Int),J wd] w fun e w'=>∃nb,e= .returned (.tuple #[.slice (some ⟨nb,0,none⟩) cs.length cs.length,I (t2:Int),u2.val,I 0])∧w.heap.size≤nb∧
    Blk w' nb (cs2.map (Value.int .u32))∧Keeps (· <w.heap.size) w w':=by
 rcases hp with⟨h1,h2,rfl,rfl,rfl⟩|⟨k,a,h1,h2,h3,h4,h5,h6,rfl,rfl,rfl⟩
 ·exact ref9_putIn cs p P hP hl u2 t wd A cp w K hb hsl hn0 hn (by omega) h1 h2
 ·exact ref9_putNew cs p P hP hl u t wd A cp w K hb hsl hn0 hn (by omega) h1 h2 h3 h4 h5 h6
structure WS (w W:World)(B:Nat)(st:List Value)(p:PlanM)(x:TokI):Prop where
 b0:Blk W B st
 b1:Blk W (B+1) p.flat
 b2:Blk W (B+1+1) (tokI x)
 b3:Blk W (B+1+1+1) st0
 kp:Keeps (· <B) w W
theorem WS.keep {w W W':World}{B:Nat}{st:List Value}{p:PlanM}{x:TokI}(h:WS w W B st p x){K:Nat→Prop}(k:Keeps K W W')(hk:∀b,b≤B+1+1+1→K b):WS w W' B st p x:=
 ⟨h.b0.keep k (hk _ (by omega)),h.b1.keep k (hk _ (by omega)),h.b2.keep k (hk _ (by omega)),h.b3.keep k (hk _ (by omega)),h.kp.trans (k.mono fun b hb=>hk b (by have hb:b<B:=hb;omega))⟩
theorem WS.calls {w W W':World}{B:Nat}{st:List Value}{p:PlanM}{x:TokI}(h:WS w W B st p x)(k:Keeps (· <W.heap.size) W W'):WS w W' B st p x:=h.keep k fun b hb=>by have:=h.b3.lt;show b<W.heap.size;omega
theorem WS.set {w W:World}{B:Nat}{st:List Value}{p:PlanM}{x:TokI}(h:WS w W B st p x)(i:Nat)(v:Value):WS w (W.setCell ⟨B,i,none⟩ v) B (st.set i v) p x:=
 ⟨h.b0.set i v,h.b1.set_ne (a:=⟨B,i,none⟩) v (by show B+1≠B;omega),h.b2.set_ne (a:=⟨B,i,none⟩) v (by show B+1+1≠B;omega),h.b3.set_ne (a:=⟨B,i,none⟩) v (by show B+1+1+1≠B;omega),h.kp.setCell (p:=⟨B,i,none⟩) (fun h=>by have h:B<B:=h;omega) v⟩
theorem WS.far {w W:World}{B:Nat}{st:List Value}{p:PlanM}{x:TokI}(h:WS w W B st p x)(b i:Nat)(v:Value)(hb:B+1+1+1<b):WS w (W.setCell ⟨b,i,none⟩ v) B st p x:=
 ⟨h.b0.set_ne (a:=⟨b,i,none⟩) v (by show B≠b;omega),h.b1.set_ne (a:=⟨b,i,none⟩) v (by show B+1≠b;omega),h.b2.set_ne (a:=⟨b,i,none⟩) v (by show B+1+1≠b;omega),h.b3.set_ne (a:=⟨b,i,none⟩) v (by show B+1+1+1≠b;omega),h.kp.setCell (p:=⟨b,i,none⟩) (fun h=>by have h:b<B:=h;omega) v⟩
set_option maxRecDepth 100000 in
set_option maxHeartbeats 16000000 in
theorem ref12_word (cs:List Int)(segs:List SegM)(wt wv:Int)(u:V6)(p:PlanM)(P:Pools)(hP:P.ok)(hl:p.lays P)(s0:Nat)(d:Int)(x:TokI)(cs1:List Int)(rc:Nat)(u1:V6)(tl:Nat)(cs2:List Int)(t2:Nat)(u2:V6)(A:Option Addr)(cp:Nat)(sv:Value)(w:World)(K:Nat→Prop)(hb:∀b,K b→b<w.heap.size)
  (hsl:SlAt w K 1 (.slice A cs.length cp) cs.length (cs.map (Value.int .u32))) (hn0:0<cs.length) (hcn:cs.length≤65536) (hu:∀y∈cs,U32 y) (hs0:s0≤65536) (hns:1≤p.slots∧p.slots≤65536) (hx:(0≤x.1∧x.1≤255)∧x.2.1.size≤900) (h4':p.size.a4≤65536) (hb4:0≤p.base.a4∧p.base.a4≤65536)
  (hrec:RecTo p cs u s0 p.slots.toNat (keyB x.1 x.2.1) cs1 rc u1) (htl:cs1[rc]? =some (tl:Int)) (htn:tl<cs.length) (hput:PutsTo p cs1 u1 tl (wordOf d x.2.2) cs2 t2 u2) (hsvf:∃A2 n2 c2,sv= .slice A2 n2 c2):
  Z 65 #[.agg #[.slice A cs.length cp,sv,I wt,J wv,I u.a0,I u.a1,I u.a2,I u.a3,I u.a4,I u.a5],p.val,I (s0:Int),I d,.agg (tokI x).toArray] w fun e w'=>∃nb,
   e= .returned (.agg #[.slice (some ⟨nb,0,none⟩) cs.length cs.length,sv,I wt,J wv,I u2.a0,I u2.a1,I u2.a2,I u2.a3,I u2.a4,I u2.a5])∧w.heap.size≤nb∧Blk w' nb ((cs2.set rc (t2:Int)).map (Value.int .u32))∧Keeps (· <w.heap.size) w w':=by
 obtain⟨xf,xt,xp⟩:=x;obtain⟨A2,n2,c2,rfl⟩:=hsvf;obtain⟨⟨xf0,xf1⟩,xt0⟩:=hx;dsimp only at xf0 xf1 xt0 hrec hput;have hkz:=keyB_size xf xt;have hkey:=fun W=>ref7_key xf xt ⟨xf0,xf1⟩ (by omega) W
 have hsn:((p.slots.toNat:Nat):Int)=p.slots:=by omega
 have hfind:=fun W (hk:Keeps (· <w.heap.size) w W)=>ref10_find cs (s0:Int) p.slots.toNat (keyB xf xt) A cp W K (fun b hb9=>Nat.lt_of_lt_of_le (hb b hb9) hk.size) (hsl.keep hk hb) hcn hu ⟨by omega,by omega⟩ ⟨by omega,by omega⟩ (by omega)
 rw[hsn]at hfind;obtain⟨fa,fb,fc,hfe⟩:∃fa fb fc,findL cs (s0:Int) p.slots.toNat (homeD p.slots.toNat (bsL (keyB xf xt))) (keyB xf xt) p.slots.toNat 0=(fa,fb,fc):=⟨_,_,_,rfl⟩;rw[hfe]at hfind;dsimp only at hfind;have hword:=fun W=>ref_word d xp W;have hlen:=hrec.len;have hlen2:=hput.len;have hwu:=wordOf_in d xp;generalize keyB xf xt=key at*;generalize wordOf d xp=wd at*
 obtain⟨u0,u1',u2',u3,u4,u5⟩:=u;unfold tokI;dsimp only;have Hb:=hid hb;have Hsl:=hid hsl;have Hu:=hid hu;have Hkey:=hid hkey;have Hfind:=hid hfind;have Hfe:=hid hfe;have Hword:=hid hword;have Hrec:=hid hrec;have Htl:=hid htl;have Hput:=hid hput;have Hlen:=hid hlen;have Hlen2:=hid hlen2;have Hwu:=hid hwu;have Hl:=hid hl;have HP:=hid hP;have Hsn:=hid hsn;clear hb hsl hu hkey hfind hfe hword hrec htl hput hlen hlen2 hwu hl hP hsn
 unfold PlanM.val at*;refine calls_hide fun R' hR'=>?_
 go_enter Tryz.func65,Tryz.ntmps65
 go_wp2_with fail
 refine calls_gen (fun W=>WS w W w.heap.size [.slice A cs.length cp,.slice A2 n2 c2,I wt,J wv,I u0,I u1',I u2',I u3,I u4,I u5] p (xf,xt,xp)) ⟨?_,?_,?_,?_,?_⟩ (fun W0 HW=>?_)
 ·exact bA
 ·exact((Blk.new' _ p.flat 42 (by simp)).alloc _).alloc _
 ·unfold tokI;exact bA
 ·unfold st0;exact bA
 ·exact kA
 refine(Hkey.out W0).mono ?_;rintro e w1 ⟨rfl,hk1⟩;have hS1:=HW.calls hk1;generalize hBB:w.heap.size=B at*;clear HW hk1 Hkey;have HBB:=hid hBB;have hc:=hS1.b0;obtain⟨y0,y1,y2,y3,y4,y5,y6,y7,y8,y9⟩:=hc.c10;have hpc:=hS1.b1;unfold PlanM.flat at hpc;obtain⟨g0,g1,g2,g3,g4,g5,g6,g7,g8,g9,g10,g11,g12,g13,g14⟩:=hpc.c15;clear hc hpc;have HS1:=hid hS1;clear hS1
 go_wp2_with fail
 refine(Hfind.out w1 HS1.out.kp).mono ?_;rintro e w2 ⟨rfl,hk2⟩;have hS2:=HS1.out.calls hk2;clear HS1 hk2 Hfind y0 y1 y2 y3 y4 y5 y6 y7 y8 y9 g0 g1 g2 g3 g4 g5 g6 g7 g8 g9 g10 g11 g12 g13 g14;have HS2:=hid hS2;clear hS2;have hmain:∀(wx:World) (A3:Option Addr) (c3:Nat),True:=fun _ _ _=>trivial;clear hmain
 rcases Hrec.out with⟨sl,h1,h2,h3,h4,h5⟩|⟨sl,h1,h2,h3,h4,h5,h6,h7,h8⟩
 ·subst h4;rw[Hfe.out]at h1;injection h1 with e1 e2
  injection e2 with e2 e3
  subst e1 e2 e3;have hrc0:((rc:Int)==0)=false:=by simp;omega
  have hsl2:SlAt w2 (fun b=>b≠B∧b<w2.heap.size) 1 (.slice A cs1.length cp) cs1.length (cs1.map (Value.int .u32)):=(Hsl.out.keep HS2.out.kp Hb.out).mono fun b hb=>⟨by have h9:b<B:=Hb.out b hb;omega,by have h9:b<B:=Hb.out b hb;have:=HS2.out.b0.lt;omega⟩
  have hS3:=HS2.out;subst h5;have hc:=hS3.b2;unfold tokI at hc;obtain⟨x0,x1,x2⟩:=hc.c3;clear hc;have Hsl2:=hid hsl2;have HS3:=hid hS3;clear hsl2 hS3;clear Hrec HS2 h2 h3
  go_upto_region 8 with fail
  clear hrc0;obtain⟨A',cap,q1,q2,q3,q4,q5⟩:=Hsl2.out;injection q1 with q1 _ q1c
  subst q1 q1c;obtain⟨cb,co,rfl,hcb,hcell⟩:=q5 (by omega)
  have rcell:=hcell rc _ (by rw[List.getElem?_map,Htl.out];rfl)
  have hrcN:rc<cs1.length:=Hlen.out.2;have hrab:cb<w2.heap.size:=hcb.2;clear q2 q3 q4 q5 hcell
  go_wp2_with fail
  refine(Hword.out _).mono ?_;rintro e w9 ⟨⟨ex,rfl⟩,hw9⟩;rw[hw9];clear hw9 w9;clear x0 x1 x2 Hword;have hrcl:rc<cs1.length:=hrcN;have hrI:(rc:Int)<(cs1.length:Int):=by omega
  have zz149:=PLift.up @c709;exact c708
 ·rw[Hfe.out]at h1;injection h1 with e1 e2
  injection e2 with e2 e3
  subst e1 e2 e3;have HPT:=hid (fun W (hk:Keeps (· <B) w W)=>ref10_put cs p ⟨u0,u1',u2',u3,u4,u5⟩ s0 sl rc key A cp W K (fun b hb9=>by have h9:b<B:=Hb.out b hb9;have:=HBB.out;have:=hk.size;omega) (Hsl.out.keep hk Hb.out) hcn (by omega) h2 h3 h4' h4 hb4 h5 h6)
  have hc:=HS2.out.b0;obtain⟨y0,y1,y2,y3,y4,y5,y6,y7,y8,y9⟩:=hc.c10;have hpc:=HS2.out.b1;unfold PlanM.flat at hpc;obtain⟨g0,g1,g2,g3,g4,g5,g6,g7,g8,g9,g10,g11,g12,g13,g14⟩:=hpc.c15;clear hc hpc;unfold PlanM.val V6.val at HPT;dsimp only at HPT h8;generalize (u4+(2+(((key.size+3)/4:Nat):Int)))=z9 at HPT h8;have H78:=hid (And.intro h7 h8);clear h2 h3 h4 h5 h6 h7 h8 Hrec
  go_wp2_with fail
  refine(HPT.out w2 HS2.out.kp).mono ?_;rintro e w3 ⟨NB,rfl,hge,hN3,hk3⟩;have hS3:=HS2.out.calls hk3;have hBN:B+1+1+1<NB:=by have:=HS2.out.b3.lt;omega
  clear HS2 HPT hk3 y0 y1 y2 y3 y4 y5 y6 y7 y8 y9 g0 g1 g2 g3 g4 g5 g6 g7 g8 g9 g10 g11 g12 g13 g14;have HS3:=hid hS3;have HN3:=hid hN3;have Hge:=hid hge;clear hS3 hN3 hge
  go_upto_region 5 with fail
  have hka:Keeps (· <w3.heap.size) w3 (w3.alloc (.cells #[I u0,I u1',I u2',I u3,I z9,I u5] 40)):=(Keeps.refl _ _).alloc (fun b hb=>hb) _;have hS4:=HS3.out.calls hka;have hN4:=HN3.out.keep hka HN3.out.lt;have hU4:=Blk.new w3 [I u0,I u1',I u2',I u3,I z9,I u5] 40;have hNU:NB<w3.heap.size:=HN3.out.lt;clear HS3 HN3 hka;generalize w3.heap.size=UB at*;generalize w3.alloc (.cells #[I u0,I u1',I u2',I u3,I z9,I u5] 40)=w4 at*
  have hc:=hS4.b0;obtain⟨y0,y1,y2,y3,y4,y5,y6,y7,y8,y9⟩:=hc.c10;have f0:=hS4.b0.free 0;clear hc;have hS5:WS w (w4.setCell ⟨B,0,none⟩ (.slice (some ⟨NB,0,none⟩) cs.length cs.length)) B [.slice (some ⟨NB,0,none⟩) cs.length cs.length,.slice A2 n2 c2,I wt,J wv,I u0,I u1',I u2',I u3,I u4,I u5] p (xf,xt,xp):=hS4.set 0 _;have hN5:=hN4.set_ne (a:=⟨B,0,none⟩) (.slice (some ⟨NB,0,none⟩) cs.length cs.length) (by show NB≠B;omega)
  have hU5:=hU4.set_ne (a:=⟨B,0,none⟩) (.slice (some ⟨NB,0,none⟩) cs.length cs.length) (by show UB≠B;omega)
  clear hS4 hN4 hU4;have HS5:=hid hS5;have HN5:=hid hN5;have HU5:=hid hU5;clear hS5 hN5 hU5
  go_upto_region 6 with fail
  generalize w4.setCell ⟨B,0,none⟩ (.slice (some ⟨NB,0,none⟩) cs.length cs.length)=w5 at*;clear y0 y1 y2 y3 y4 y5 y6 y7 y8 y9 f0;have hc:=HS5.out.b0;obtain⟨y0,y1,y2,y3,y4,y5,y6,y7,y8,y9⟩:=hc.c10;have f:=hc.free;have hcu:=HU5.out;obtain⟨mm0,mm1,mm2,mm3,mm4,mm5⟩:=hcu.c6;clear hc hcu;have hS6:WS w ((((((w5.setCell ⟨B,4,none⟩ (I u0)).setCell ⟨B,5,none⟩ (I u1')).setCell ⟨B,6,none⟩ (I u2')).setCell ⟨B,7,none⟩ (I u3)).setCell ⟨B,8,none⟩ (I z9)).setCell ⟨B,9,none⟩ (I u5)) B [.slice (some ⟨NB,0,none⟩) cs.length cs.length,.slice A2 n2 c2,I wt,J wv,I u0,I u1',I u2',I u3,I z9,I u5] p (xf,xt,xp):=((((((HS5.out.set 4 (I u0)).set 5 (I u1')).set 6 (I u2')).set 7 (I u3)).set 8 (I z9)).set 9 (I u5))
  have hkn:Keeps (· ≠B) w5 ((((((w5.setCell ⟨B,4,none⟩ (I u0)).setCell ⟨B,5,none⟩ (I u1')).setCell ⟨B,6,none⟩ (I u2')).setCell ⟨B,7,none⟩ (I u3)).setCell ⟨B,8,none⟩ (I z9)).setCell ⟨B,9,none⟩ (I u5)):=(((((((Keeps.refl _ _).setCell (p:=⟨B,4,none⟩) (fun h=>h rfl) (I u0)).setCell (p:=⟨B,5,none⟩) (fun h=>h rfl) (I u1')).setCell (p:=⟨B,6,none⟩) (fun h=>h rfl) (I u2')).setCell (p:=⟨B,7,none⟩) (fun h=>h rfl) (I u3)).setCell (p:=⟨B,8,none⟩) (fun h=>h rfl) (I z9)).setCell (p:=⟨B,9,none⟩) (fun h=>h rfl) (I u5))
  have hN6:=HN5.out.keep hkn (by show NB≠B;omega)
  clear HS5 HN5 HU5 hkn;have HS6:=hid hS6;have HN6:=hid hN6;clear hS6 hN6
  go_upto_region 7 with fail
  generalize ((((((w5.setCell ⟨B,4,none⟩ (I u0)).setCell ⟨B,5,none⟩ (I u1')).setCell ⟨B,6,none⟩ (I u2')).setCell ⟨B,7,none⟩ (I u3)).setCell ⟨B,8,none⟩ (I z9)).setCell ⟨B,9,none⟩ (I u5))=w6 at*;clear y0 y1 y2 y3 y4 y5 y6 y7 y8 y9 mm0 mm1 mm2 mm3 mm4 mm5 f;obtain⟨h7,h8⟩:=H78.out;subst h8;have hN7:=HN6.out;rw[←h7]at hN7;clear h7 H78 HN6;have hcl:cs1.length=cs.length:=Hlen.out.1
  have hsl2:SlAt w6 (fun b=>b≠B∧b<w6.heap.size) 1 (.slice (some ⟨NB,0,none⟩) cs1.length cs.length) cs1.length (cs1.map (Value.int .u32)):=
   ⟨_,_,rfl,by omega,by unfold maxLen;omega,by rw[List.length_map];omega,fun _=>⟨NB,0,rfl,⟨by omega,hN7.lt⟩,fun j v hv=>by rw[Nat.zero_add,hN7.cell];exact hv⟩⟩
  have rcell:w6.cell? ⟨NB,rc,none⟩=some (J (tl:Int)):=(hN7.cell rc).trans (by rw[List.getElem?_map,Htl.out];rfl)
  have hrcN:rc<cs.length:=Hlen.out.2;have hrab:NB<w6.heap.size:=hN7.lt;have hc:=HS6.out.b2;unfold tokI at hc;obtain⟨x0,x1,x2⟩:=hc.c3;clear hc hN7;have Hsl2:=hid hsl2;clear hsl2
  go_upto_region 8 with fail
  go_wp2_with fail
  refine(Hword.out _).mono ?_;rintro e w9 ⟨⟨ex,rfl⟩,hw9⟩;rw[hw9];clear hw9 w9;clear x0 x1 x2 Hword;have hrcl:rc<cs.length:=hrcN;have hrI:(rc:Int)<(cs.length:Int):=by omega
  have zz149:=PLift.up @c710;exact c708
end Go.Proofs.YtogdknnkhkjmcaaGreatDoor
