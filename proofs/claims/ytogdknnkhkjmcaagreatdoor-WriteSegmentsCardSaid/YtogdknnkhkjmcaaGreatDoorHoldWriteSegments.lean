/- The statement on WriteSegments, and its card: the call returns true and leaves what it was handed as it was. -/
import Derived.Test.YtogdknnkhkjmcaaGreatDoorKFoldB
import Derived.BigQuiet
import Derived.Test.YtogdknnkhkjmcaaGreatDoorKLwO
import Derived.Test.YtogdknnkhkjmcaaGreatDoorCards
import Derived.Test.YtogdknnkhkjmcaaGreatDoorTie
import Derived.WalkKit
import Derived.ProofKit
import Derived.OpenShut
import Derived.Deep.DeepHandedRow
import Derived.Lib.LaidTab
namespace Go.Proofs.YtogdknnkhkjmcaaGreatDoor
open Go.RowKit
set_option linter.all false
structure KP (W:World)(N:Nat) where
 w:World
 k:Keeps (· <N) W w
instance KP.ne (W:World)(N:Nat):Nonempty (KP W N):=⟨⟨W,Keeps.refl _ _⟩⟩
theorem wp_region_class {P:Program}{id:Nat}{Q:Exit→Act→World→Prop}{a:Act}{w:World}{l:List Oper}(N:Nat)(hm:P.follows .mixedOrders=true)(hB:Region.lexB .any l.toArray=true)
  (h:wpQuiet P l.toArray (fun w'=>∃p:KP w N,w'=p.w) (fun a'=>∀w',(∃p:KP w N,w'=p.w)→Q .normal a' w') l a):(Code.region id l.toArray true).wp P Q a w:=
 wp_region_quiet (C:=fun w'=>∃p:KP w N,w'=p.w) hm hB ⟨⟨w.drew,(Keeps.refl _ _).drew⟩,rfl⟩ (by simpa using h)
theorem KP.calls {P:Program}{f:FuncId}{args:Array Value}{W:World}{N:Nat}(p:KP W N){v:Value}(hN:N≤W.heap.size)(h:Calls P f args p.w fun e w'=>e= .returned v∧Keeps (· <p.w.heap.size) p.w w'):Calls P f args p.w fun e w'=>e= .returned v∧∃q:KP W N,w'=q.w:=
 h.mono fun _ w' ⟨he,hk⟩=>⟨he,⟨w',p.k.trans (hk.mono fun b hb=>by have:=p.k.size;omega)⟩,rfl⟩
theorem KP.cell {W:World}{N b o:Nat}{v:Value}(hb:b<N)(h:W.cell? ⟨b,o,none⟩=some v)(p:KP W N):p.w.cell? ⟨b,o,none⟩=some v:=(World.cell?_of_block (p.k.block b hb)).trans h
theorem KP.draw {W:World}{N:Nat}(p:KP W N)(n:Nat):Keeps (· <p.w.heap.size) p.w (p.w.drewN n):=(Keeps.refl _ _).drewN n
end Go.Proofs.YtogdknnkhkjmcaaGreatDoor
namespace Go.Proofs.YtogdknnkhkjmcaaGreatDoor
open Go.RowKit
set_option linter.all false
def baseI (addr:Int)(sealed:Bool):Int:=if sealed then addr+2 else addr+1
theorem write_baseI (addr docs:Int)(sealed:Bool)(w:World)(ha:Small addr):Z 31 #[.agg #[I addr,I docs,.bool sealed]] w fun e w'=>e= .returned (I (baseI addr sealed))∧Keeps (· <w.heap.size) w w':=by
 have hk:Keeps (· <w.heap.size) w (w.alloc (.cells #[I addr,I docs,.bool sealed] 65)):=(Keeps.refl _ _).alloc (fun b hb=>hb) _;obtain⟨h0,h1⟩:=ha;have Hk:=hid hk;clear hk;refine calls_hide fun R' hR'=>?_
 go_enter Tryz.func31,Tryz.ntmps31
 cases sealed with
 |true=>
  go_wp2_with fail
  exact hR'.out _ _ ⟨rfl,Hk.out⟩
 |false=>
  go_wp2_with fail
  exact hR'.out _ _ ⟨rfl,Hk.out⟩
theorem ref12_baseI (addr docs:Int)(sealed:Bool)(w:World)(ha:Small addr):Z 21 #[.agg #[I addr,I docs,.bool sealed]] w fun e w'=>e= .returned (I (baseI addr sealed))∧Keeps (· <w.heap.size) w w':=by
 have hk:Keeps (· <w.heap.size) w (w.alloc (.cells #[I addr,I docs,.bool sealed] 65)):=(Keeps.refl _ _).alloc (fun b hb=>hb) _;obtain⟨h0,h1⟩:=ha;have Hk:=hid hk;clear hk;refine calls_hide fun R' hR'=>?_
 go_enter Tryz.func21,Tryz.ntmps21
 cases sealed with
 |true=>
  go_wp2_with fail
  exact hR'.out _ _ ⟨rfl,Hk.out⟩
 |false=>
  go_wp2_with fail
  exact hR'.out _ _ ⟨rfl,Hk.out⟩
theorem seg_new (C:ConfM){w:World}(hT:PTab w){m c:Nat}{n:Nat}(h:MemAt w m c ⟨List.replicate n 0,0,0⟩)(hm0:m≠0)(hc0:c≠0)(hn:0<n):
  Z 30 #[.pointer (some ⟨m,0,none⟩),.agg C.list.toArray] w fun e w'=>∃(A:Option Addr) (k cp:Nat) (t v u0 u1 u2 u3 u4 u5 f st:Int),e= .returned (.tuple #[.agg #[.slice A k cp,I t,J v,I u0,I u1,I u2,I u3,I u4,I u5],I f])∧(∃μ,MemAt w' m c μ∧μ.stores=st)∧(¬((C.ok∧C.all≤65536)∧(n:Int)=C.all)→f=1∧st=0)∧Keeps (fun b=>b<w.heap.size∧b≠m∧b≠c) w w':=by
 by_cases hcf:C.ok∧C.all≤65536
 ·have hlen:=fun W (hk:Keeps (· <w.heap.size) w W)=>mem_len (h.keep hk h.obj.lt h.cells.lt);dsimp only at hlen;rw[List.length_replicate]at hlen;have hlv:1≤C.plan.live∧C.plan.live≤1000:=by
   have h1:=hcf.1.d0;have h2:=hcf.1.d1;unfold ConfM.plan;dsimp only
   split
   ·omega
   ·split<;>omega
  by_cases hne:(n:Int)=C.all
  ·by_cases hfu:C.plan.size.a5<C.plan.live+2
   ·refine(new_full hT C hcf _ n hlen hne hfu hlv).mono ?_;rintro e w' ⟨rfl,hk⟩;exact⟨none,0,0,0,0,0,0,0,0,0,0,3,0,rfl,⟨_,h.keep hk h.obj.lt h.cells.lt,rfl⟩,fun h=>absurd ⟨hcf,hne⟩ h,hk.mono fun b hb=>hb.1⟩
   ·have hb5:0≤C.plan.base.a5∧C.plan.base.a5≤65536:=by
     obtain⟨d0,d1,t0,t1,a0,a1,b0,b1,c0,c1,e0,e1,k0,k1,r0,r1⟩:=hcf.1;have h9:=hcf.2;unfold ConfM.all at h9;unfold ConfM.plan;dsimp only
     omega
    refine(new_good hT C hcf h hm0 hc0 (by rw[List.length_replicate];exact hne) hfu hlv hb5).mono ?_
    rintro e w' ⟨g,-,rfl,-,hm,hk⟩;exact⟨_,1,1,0,0,0,0,0,0,0,_,0,_,rfl,⟨_,hm,rfl⟩,fun h=>absurd ⟨hcf,hne⟩ h,hk⟩
  ·refine(new_len hT C hcf _ n hlen hne).mono ?_;rintro e w' ⟨rfl,hk⟩;exact⟨none,0,0,0,0,0,0,0,0,0,0,1,0,rfl,⟨_,h.keep hk h.obj.lt h.cells.lt,rfl⟩,fun _=>⟨rfl,rfl⟩,hk.mono fun b hb=>hb.1⟩
 ·refine(new_bad hT C hcf _).mono ?_;rintro e w' ⟨rfl,hk⟩;exact⟨none,0,0,0,0,0,0,0,0,0,0,1,0,rfl,⟨_,h.keep hk h.obj.lt h.cells.lt,rfl⟩,fun _=>⟨rfl,rfl⟩,hk.mono fun b hb=>hb.1⟩
theorem seg_nil (C:ConfM){w:World}(hT:PTab w):
  Z 30 #[.pointer none,.agg C.list.toArray] w fun e w'=>e= .returned (.tuple #[.agg wr0.toArray,I 1])∧Keeps (· <w.heap.size) w w':=by
 by_cases hcf:C.ok∧C.all≤65536
 ·exact new_len hT C hcf _ 0 (fun W _=>mem_len_nil W) (by have:=plan_base5 C hcf.1;obtain⟨d0,d1,t0,t1,a0,a1,b0,b1,c0,c1,e0,e1,k0,k1,r0,r1⟩:=hcf.1;unfold ConfM.all;omega)
 ·exact new_bad hT C hcf _
set_option maxRecDepth 100000 in
set_option maxHeartbeats 4000000 in
theorem law_segs (C:ConfM)(addr docs:Int)(sealed:Bool)(n:Nat)(hn:n<65536)(w:World)(hT:PTab w)(hF:FoldTab w):
  Z 7 #[.agg C.list.toArray,.agg #[I addr,I docs,.bool sealed],.int .u16 n] w fun e w'=>e= .returned (.bool true)∧Keeps (· <w.heap.size) w w':=by
 have hfix:=fun W (hk:Keeps (· <w.heap.size) w W)=>law_fixed (w0:=w) (w:=W) hT hF hk;obtain⟨pl,er,her,hlay⟩:∃(p:PlanM) (er:Int),((er=0∧(C.ok∧C.all≤65536)∧p.cells=C.all)∨(er=1∧¬(C.ok∧C.all≤65536)))∧∀W,Z 28 #[.agg C.list.toArray] W fun e w'=>e= .returned (.tuple #[p.val,I er])∧Keeps (· <W.heap.size) W w':=by
  by_cases h:C.ok∧C.all≤65536
  ·exact⟨C.plan,0,Or.inl ⟨rfl,h,rfl⟩,fun W=>lay_yes C h.1 h.2 W⟩
  ·exact⟨PlanM.zero,1,Or.inr ⟨rfl,h⟩,fun W=>lay_no C h W⟩
 have hnew:=fun W (hk:Keeps (· <w.heap.size) w W) (hT':PTab W) m c h h1 h2=>seg_new C (w:=W) hT' (m:=m) (c:=c) (n:=1+n) h h1 h2 (by omega)
 have hnil:=fun W (hT':PTab W)=>seg_nil C (w:=W) hT';obtain⟨docs',terms,q0,q1,q2,q3,book,room,kk,bb,hcfe⟩:∃docs terms q0 q1 q2 q3 book room kk bb,C=⟨docs,terms,q0,q1,q2,q3,book,room,kk,bb⟩:=⟨_,_,_,_,_,_,_,_,_,_,rfl⟩;have hcli:C.list=[I docs',I terms,I q0,I q1,I q2,I q3,I book,I room,kk,bb]:=by rw[hcfe];rfl
 rw[hcli]at hnew hnil hlay ⊢;obtain⟨⟨b0,b1,b2,b3,b4,b5⟩,⟨s0,s1,s2,s3,s4,s5⟩,pcells,pslots,plive⟩:=pl;unfold PlanM.val at hlay;dsimp only at hlay her;have HT:=hid hT;have HFIX:=hid hfix;have HNEW:=hid hnew;have HNIL:=hid hnil;have HLAY:=hid hlay;clear hT hF hfix hnew hnil hlay hcli hcfe;refine calls_hide fun R' hR'=>?_
 go_enter Tryz.func7,Tryz.ntmps7
 go_upto_region 1 with fail
 have hk1:Keeps (· <w.heap.size) w ((w.alloc (.cells #[I docs',I terms,I q0,I q1,I q2,I q3,I book,I room,kk,bb] 25)).alloc (.cells #[I addr,I docs,.bool sealed] 65)):=by
  exact kA
 have hBC:=(Blk.new w [I docs',I terms,I q0,I q1,I q2,I q3,I book,I room,kk,bb] 25).alloc (.cells #[I addr,I docs,.bool sealed] 65);have hBS:=Blk.new' (w.alloc (.cells #[I docs',I terms,I q0,I q1,I q2,I q3,I book,I room,kk,bb] 25)) [I addr,I docs,.bool sealed] 65 (b:=w.heap.size+1) (by simp)
 generalize hBe:w.heap.size=B at*;generalize (w.alloc (.cells #[I docs',I terms,I q0,I q1,I q2,I q3,I book,I room,kk,bb] 25)).alloc (.cells #[I addr,I docs,.bool sealed] 65)=w1 at*;obtain⟨c0,c1,c2,c3,c4,c5,c6,c7,c8,c9⟩:=hBC.c10;obtain⟨d0,d1,d2⟩:=hBS.c3;have Hk1:=hid hk1;have HBC:=hid hBC;have HBS:=hid hBS;clear hk1 hBC hBS
 by_cases hhi:1099511627776<addr
 ·have g1:decide (addr>1099511627776)=true:=decide_eq_true hhi;have g2:decide (1099511627776<addr)=true:=decide_eq_true hhi
  go_wp2_with fail
  refine(HFIX.out w1 Hk1.out).mono ?_;rintro e w9 ⟨rfl,hk9⟩;have hk99:=Hk1.out.trans (hk9.mono fun b hb=>by have:=Hk1.out.size;omega)
  clear hk9;have Hk99:=hid hk99;clear hk99
  go_wp2_with fail
  exact hR'.out _ _ ⟨rfl,Hk99.out⟩
 by_cases hlo:addr< -1099511627776
 ·have g1:decide (addr>1099511627776)=false:=decide_eq_false (by omega)
  have g2:decide (1099511627776<addr)=false:=decide_eq_false (by omega)
  have g3:decide (addr< -1099511627776)=true:=decide_eq_true hlo
  go_wp2_with fail
  refine(HFIX.out w1 Hk1.out).mono ?_;rintro e w9 ⟨rfl,hk9⟩;have hk99:=Hk1.out.trans (hk9.mono fun b hb=>by have:=Hk1.out.size;omega)
  clear hk9;have Hk99:=hid hk99;clear hk99
  go_wp2_with fail
  exact hR'.out _ _ ⟨rfl,Hk99.out⟩
 have g1:decide (addr>1099511627776)=false:=decide_eq_false (by omega)
 have g2:decide (1099511627776<addr)=false:=decide_eq_false (by omega)
 have g3:decide (addr< -1099511627776)=false:=decide_eq_false (by omega)
 have hwn:IntKind.i64.wrap (1+(n:Int))=1+(n:Int):=IntWalk.i64_in _ (by omega)
 go_wp2_with fail
 refine(HLAY.out w1).mono ?_;rintro e w2 ⟨rfl,hk2⟩;clear g1 g2 g3 c0 c1 c2 c3 c4 c5 c6 c7 c8 c9 d0 d1 d2;have hBC2:=HBC.out.keep hk2 HBC.out.lt;have hBS2:=HBS.out.keep hk2 HBS.out.lt;have hk12:=Hk1.out.trans (hk2.mono fun b hb=>by have:=Hk1.out.size;omega)
 clear Hk1 HBC HBS hk2;obtain⟨c0,c1,c2,c3,c4,c5,c6,c7,c8,c9⟩:=hBC2.c10;clear c0 c1 c2 c3 c4 c5 c6 c7 c8 c9;have HBC2:=hid hBC2;have HBS2:=hid hBS2;have Hk12:=hid hk12;clear hBC2 hBS2 hk12
 go_upto_region 4 with fail
 have hka:Keeps (· <w2.heap.size) w2 (w2.alloc (.cells #[I b0,I b1,I b2,I b3,I b4,I b5,I s0,I s1,I s2,I s3,I s4,I s5,I pcells,I pslots,I plive] 42)):=(Keeps.refl _ _).alloc (fun b hb=>hb) _;have hBP3:=Blk.new w2 [I b0,I b1,I b2,I b3,I b4,I b5,I s0,I s1,I s2,I s3,I s4,I s5,I pcells,I pslots,I plive] 42;have hBC3:=HBC2.out.keep hka HBC2.out.lt;have hBS3:=HBS2.out.keep hka HBS2.out.lt
 have hk13:=Hk12.out.trans (hka.mono fun b hb=>by have:=Hk12.out.size;omega)
 have hBl:=HBS2.out.lt;have hwl:=Hk12.out.size;generalize w2.alloc (.cells #[I b0,I b1,I b2,I b3,I b4,I b5,I s0,I s1,I s2,I s3,I s4,I s5,I pcells,I pslots,I plive] 42)=w3 at*;generalize w2.heap.size=BP at*;have hPl:=hBP3.lt;clear HBC2 HBS2 Hk12 hka;have HBP3:=hid hBP3;have HBC3:=hid hBC3;have HBS3:=hid hBS3;have Hk13:=hid hk13;clear hBP3 hBC3 hBS3 hk13
 go_wp2_with fail
 refine(mem_newI w3 (1+(n:Int)) (by omega) (by omega)).mono ?_
 rintro e w4 ⟨rfl,hm4,hk4,-⟩;rw[show(1+(n:Int)).toNat=1+n by omega]at hm4
 have hBP4:=HBP3.out.keep hk4 HBP3.out.lt;have hBC4:=HBC3.out.keep hk4 HBC3.out.lt;have hBS4:=HBS3.out.keep hk4 HBS3.out.lt;have hk14:=Hk13.out.trans (hk4.mono fun b hb=>by have:=Hk13.out.size;omega)
 generalize w3.heap.size=M at*;clear HBP3 HBC3 HBS3 Hk13 hk4 hwn;have hnew:=HNEW.out w4 hk14 (HT.out.keep (K:=(· <B)) hk14 (by have h:=HT.out.2.2.2.2;rw[hBe]at h;exact h)) (M+1) M hm4 (by omega) (by omega)
 have HNW:=hid hnew;clear hnew HNEW;have hbc:=hBC4;obtain⟨c0,c1,c2,c3,c4,c5,c6,c7,c8,c9⟩:=hbc.c10;clear hbc;have HBP4:=hid hBP4;have HBC4:=hid hBC4;have HBS4:=hid hBS4;have Hk14:=hid hk14;have Hm4:=hid hm4;clear hBP4 hBC4 hBS4 hk14 hm4
 go_wp2_with fail
 refine HNW.out.mono ?_;rintro e w5 ⟨A,k,cp,t,v,u0,u1,u2,u3,u4,u5,f,st,rfl,⟨μ,hm5,hst⟩,hf,hk5⟩;have hBP5:=HBP4.out.keep hk5 ⟨HBP4.out.lt,by omega,by omega⟩
 have hBC5:=HBC4.out.keep hk5 ⟨HBC4.out.lt,by omega,by omega⟩
 have hBS5:=HBS4.out.keep hk5 ⟨HBS4.out.lt,by omega,by omega⟩
 have hk15:=Hk14.out.trans (hk5.mono fun b hb=>⟨by have:=Hk14.out.size;omega,by omega,by omega⟩)
 clear HNW HBP4 HBC4 HBS4 Hk14 Hm4 hk5 c0 c1 c2 c3 c4 c5 c6 c7 c8 c9;have HBP5:=hid hBP5;have HBC5:=hid hBC5;have HBS5:=hid hBS5;have Hk15:=hid hk15;have Hm5:=hid hm5;have Hf:=hid hf;have Hst:=hid hst;clear hBP5 hBC5 hBS5 hk15 hm5 hf hst
 go_upto_region 6 with fail
 have hka:Keeps (· <w5.heap.size) w5 (w5.alloc (.cells #[.slice A k cp,I t,J v,I u0,I u1,I u2,I u3,I u4,I u5] 46)):=(Keeps.refl _ _).alloc (fun b hb=>hb) _;have hBP6:=HBP5.out.keep hka HBP5.out.lt;have hBC6:=HBC5.out.keep hka HBC5.out.lt;have hBS6:=HBS5.out.keep hka HBS5.out.lt;have hm6:=Hm5.out.keep hka Hm5.out.obj.lt Hm5.out.cells.lt;have hk16:=Hk15.out.trans (hka.mono fun b hb=>by have:=Hk15.out.size;omega)
 generalize w5.alloc (.cells #[.slice A k cp,I t,J v,I u0,I u1,I u2,I u3,I u4,I u5] 46)=w6 at*;generalize w5.heap.size=B5 at*;clear HBP5 HBC5 HBS5 Hm5 Hk15 hka;have hnil:=HNIL.out w6 (HT.out.keep (K:=(· <B)) hk16 (by have h:=HT.out.2.2.2.2;rw[hBe]at h;exact h))
 unfold wr0 at hnil;have HNL:=hid hnil;clear hnil HNIL;have hbc:=hBC6;obtain⟨c0,c1,c2,c3,c4,c5,c6,c7,c8,c9⟩:=hbc.c10;clear hbc hBC6;have HBP6:=hid hBP6;have HBS6:=hid hBS6;have Hk16:=hid hk16;have Hm6:=hid hm6;clear hBP6 hBS6 hk16 hm6
 go_wp2_with fail
 refine HNL.out.mono ?_;rintro e w7 ⟨rfl,hk7⟩;have hBP7:=HBP6.out.keep hk7 HBP6.out.lt;have hBS7:=HBS6.out.keep hk7 HBS6.out.lt;have hm7:=Hm6.out.keep hk7 Hm6.out.obj.lt Hm6.out.cells.lt;have hk17:=Hk16.out.trans (hk7.mono fun b hb=>by have:=Hk16.out.size;omega)
 clear HNL HBP6 HBS6 Hm6 Hk16 hk7 c0 c1 c2 c3 c4 c5 c6 c7 c8 c9;have HBP7:=hid hBP7;have HBS7:=hid hBS7;have Hm7:=hid hm7;have Hk17:=hid hk17;clear hBP7 hBS7 hm7 hk17
 go_upto_region 7 with fail
 have hka:Keeps (· <w7.heap.size) w7 (w7.alloc (.cells #[.slice none 0 0,I 0,J 0,I 0,I 0,I 0,I 0,I 0,I 0] 46)):=(Keeps.refl _ _).alloc (fun b hb=>hb) _;have hBP8:=HBP7.out.keep hka HBP7.out.lt;have hBS8:=HBS7.out.keep hka HBS7.out.lt;have hm8:=Hm7.out.keep hka Hm7.out.obj.lt Hm7.out.cells.lt;have hk18:=Hk17.out.trans (hka.mono fun b hb=>by have:=Hk17.out.size;omega)
 generalize w7.alloc (.cells #[.slice none 0 0,I 0,J 0,I 0,I 0,I 0,I 0,I 0,I 0] 46)=wn at*;generalize w7.heap.size=B7 at*;clear HBP7 HBS7 Hm7 Hk17 hka;have hnn:=hk18.size;have hfx:∀p:KP wn wn.heap.size,Z 10 #[] p.w fun e w'=>e= .returned (.bool true)∧∃q:KP wn wn.heap.size,w'=q.w:=fun p=>p.calls (Nat.le_refl _) (HFIX.out p.w (hk18.trans (p.k.mono fun b hb=>by have hb:b<B:=hb;have:=hk18.size;omega)))
 have hw1:∀p:KP wn wn.heap.size,Z 31 #[.agg #[I addr,I docs,.bool sealed]] p.w fun e w'=>e= .returned (I (baseI addr sealed))∧∃q:KP wn wn.heap.size,w'=q.w:=fun p=>p.calls (Nat.le_refl _) (write_baseI addr docs sealed p.w ⟨by omega,by omega⟩)
 have hw2:∀p:KP wn wn.heap.size,Z 21 #[.agg #[I addr,I docs,.bool sealed]] p.w fun e w'=>e= .returned (I (baseI addr sealed))∧∃q:KP wn wn.heap.size,w'=q.w:=fun p=>p.calls (Nat.le_refl _) (ref12_baseI addr docs sealed p.w ⟨by omega,by omega⟩)
 have y0:∀p:KP wn wn.heap.size,p.w.cell? ⟨B+1,0,none⟩=some (I addr):=KP.cell hBS8.lt ((hBS8.cell 0).trans rfl);have y1:∀p:KP wn wn.heap.size,p.w.cell? ⟨B+1,1,none⟩=some (I docs):=KP.cell hBS8.lt ((hBS8.cell 1).trans rfl);have y2:∀p:KP wn wn.heap.size,p.w.cell? ⟨B+1,2,none⟩=some (.bool sealed):=KP.cell hBS8.lt ((hBS8.cell 2).trans rfl);generalize baseI addr sealed=bv at*
 have Hfx:=hid hfx;have Hw1:=hid hw1;have Hw2:=hid hw2;have HBP8:=hid hBP8;have HBS8:=hid hBS8;have Hm8:=hid hm8;have Hk18:=hid hk18;clear hfx hw1 hw2 hBP8 hBS8 hm8 hk18;refine wp_region_class wn.heap.size (by kernel_rfl) (by kernel_rfl) ?_
 repeat(go_big_quiet_step ((first|exact Hfx.out _|exact Hw1.out _|exact Hw2.out _)))
 refine wpQuiet_nil ?_;rintro wq ⟨⟨_,hkq⟩,rfl⟩;have hBP9:=HBP8.out.keep hkq HBP8.out.lt;have hm9:=Hm8.out.keep hkq Hm8.out.obj.lt Hm8.out.cells.lt;have hk19:=Hk18.out.trans (hkq.mono fun b hb=>by have hb:b<B:=hb;omega)
 have hk20:=hk19;clear HBP8 HBS8 Hm8 Hk18 Hfx Hw1 Hw2 y0 y1 y2 hkq hk19;have HBP9:=hid hBP9;have Hm9:=hid hm9;have Hk20:=hid hk20;clear hBP9 hm9 hk20
 rcases her with⟨rfl,hok,hpc⟩|⟨rfl,hbad⟩
 ·have hbp:=HBP9.out;obtain⟨p0,p1,p2,p3,p4,p5,p6,p7,p8,p9,p10,p11,p12,p13,p14⟩:=hbp.c15;clear hbp
  by_cases hq:((1+n:Nat):Int)=C.all
  ·have hqb:(pcells==1+(n:Int))=true:=by rw[beq_iff_eq];omega
   clear hpc hq hok
   go_wp2_with fail
   exact hR'.out _ _ ⟨rfl,Hk20.out⟩
  ·obtain⟨hf1,hs1⟩:=Hf.out fun h=>hq h.2;have hqb:(pcells==1+(n:Int))=false:=by rw[beq_eq_false_iff_ne];omega
   have hs0:μ.stores=0:=by rw[Hst.out];exact hs1
   clear hpc hq hok hs1;subst hf1
   go_wp2_with fail
   refine(mem_stores Hm9.out).mono ?_;rintro e w9 ⟨rfl,rfl⟩;rw[hs0]
   go_wp2_with fail
   exact hR'.out _ _ ⟨rfl,Hk20.out⟩
 ·obtain⟨hf1,hs1⟩:=Hf.out fun h=>hbad h.1;have hs0:μ.stores=0:=by rw[Hst.out];exact hs1
  clear hbad hs1;subst hf1
  go_wp2_with fail
  refine(mem_stores Hm9.out).mono ?_;rintro e w9 ⟨rfl,rfl⟩;rw[hs0]
  go_wp2_with fail
  exact hR'.out _ _ ⟨rfl,Hk20.out⟩
end Go.Proofs.YtogdknnkhkjmcaaGreatDoor
namespace Go.Proofs.YtogdknnkhkjmcaaGreatDoor
open Go.RowKit Go.ChangeShapes Go.WideShapes Go.Deep
set_option linter.all false
set_option maxRecDepth 100000
theorem Tryz.cellsSeg3:Tryz.prog.cellsOf 65=3:=by kernel_rfl
section
variable {H:Type}{enc:TypeId×Value→H}{w:World}
theorem open_seg {v:Value}{d:DataW H}{p:List MemPlace}{r:Reach}{b0:Nat}(hv:Value.okWide Tryz.prog w r b0 65 v)
  (h:DataW.Trod enc Tryz.prog w 0 (fun _=>true) true 65 v d p):∃(addr docs:Int) (sealed:Bool),v= .agg #[.int .i64 addr,.int .i64 docs,.bool sealed]:=by
 obtain⟨cs,rfl,hsz⟩:=okWide_struct Tryz.underlying65 hv;rw[Tryz.cellsSeg3]at hsz;obtain⟨fuel,h⟩:=h;obtain⟨xs,n',_,hx,_,hlen,hf⟩:=DataW.trod_struct Tryz.underlying65 h;have hcs:(Value.agg cs).cells.toList=cs.toList:=rfl;rw[hcs]at hf;have hl:cs.toList.length=3:=by simpa using hsz
 obtain⟨l,hle⟩:∃l,l=cs.toList:=⟨_,rfl⟩;rw[←hle]at hf hl
 match xs,hlen with
 | [y0,y1,y2],_=>
 match l,hl with
 | [c0,c1,c2],_=>
  have f0:DataW.trod enc Tryz.prog w 0 (fun _=>true) true n' 3 [c0]=some y0:=hf 0 _ rfl;have f1:DataW.trod enc Tryz.prog w 0 (fun _=>true) true n' 3 [c1]=some y1:=hf 1 _ rfl;have f2:DataW.trod enc Tryz.prog w 0 (fun _=>true) true n' 4 [c2]=some y2:=hf 2 _ rfl;obtain⟨a0,g0,_,_⟩:=DataW.trod_int Tryz.underlying3 f0;obtain⟨a1,g1,_,_⟩:=DataW.trod_int Tryz.underlying3 f1
  obtain⟨a2,g2,_⟩:=DataW.trod_bool Tryz.underlying4 f2;simp only[List.cons.injEq,and_true]at g0 g1 g2;subst g0 g1 g2;refine⟨a0,a1,a2,?_⟩
  congr 1
  apply Array.ext'
  rw[←hle]
end
end Go.Proofs.YtogdknnkhkjmcaaGreatDoor
namespace Go.Proofs.YtogdknnkhkjmcaaGreatDoor
open Go.RowKit Go.ChangeShapes Go.WideShapes Go.ChangeAt Go.Deep
set_option linter.all false
theorem tab_writeSegments {W:World}(h:laidMetH Tryz.prog Rows.writeSegmentsRow.laid W):FoldTab W:=foldTab_of (l:=Rows.writeSegmentsRow.laid) h (by unfold Rows.writeSegmentsRow;simp) (by unfold Rows.writeSegmentsRow;simp) (by unfold Rows.writeSegmentsRow;simp)
theorem pool_writeSegments {W:World}(h:laidMetH Tryz.prog Rows.writeSegmentsRow.laid W):PTab W:=pTab_of (l:=Rows.writeSegmentsRow.laid) h (by unfold Rows.writeSegmentsRow;simp)
theorem writeSegments_met (os:Os):laidMet Tryz.prog Rows.writeSegmentsRow.laid ((laidWorld12 os).forCall (fun _ _=>0) ⟨#[],#[.agg #[.int .i64 0,.int .i64 0,.int .i64 0,.int .i64 0,.int .i64 0,.int .i64 0,.int .i64 0,.int .i64 0,.float .f64 0,.float .f64 0],.agg #[.int .i64 0,.int .i64 0,.bool false],.int .u16 0],[]⟩).memory:=
 laidMet_of_run' 8 (by kernel_rfl) (by kernel_rfl)
theorem writeSegments_reads (os:Os){H:Type}(enc:TypeId×Value→H):∃places,DataW.whole enc Tryz.prog ((laidWorld12 os).forCall (fun _ _=>0) ⟨#[],#[.agg #[.int .i64 0,.int .i64 0,.int .i64 0,.int .i64 0,.int .i64 0,.int .i64 0,.int .i64 0,.int .i64 0,.float .f64 0,.float .f64 0],.agg #[.int .i64 0,.int .i64 0,.bool false],.int .u16 0],[]⟩).memory Tryz.f7.params.toList Rows.writeSegmentsSpec.vars false (#[.agg #[.int .i64 0,.int .i64 0,.int .i64 0,.int .i64 0,.int .i64 0,.int .i64 0,.int .i64 0,.int .i64 0,.float .f64 0,.float .f64 0],.agg #[.int .i64 0,.int .i64 0,.bool false],.int .u16 0]:Array Value).toList 8=some ([.agg [.lit (.int .i64 0),.lit (.int .i64 0),.agg [.lit (.int .i64 0),.lit (.int .i64 0),.lit (.int .i64 0),.lit (.int .i64 0)],.lit (.int .i64 0),.lit (.int .i64 0),.lit (.float .f64 0),.lit (.float .f64 0)],.agg [.lit (.int .i64 0),.lit (.int .i64 0),.lit (.bool false)],.lit (.int .u16 0)],[],places):=
 ⟨[],by kernel_rfl⟩
set_option maxRecDepth 100000 in
theorem writeSegments_lifted (os:Os)(started:os.Started)(H:Type)(enc:TypeId×Value→H)(F:Stop.Interp):
  ReturnsInHanded {} Tryz.checked os 7 .any ((OpenSpec.ofChange Rows.writeSegmentsSpec).preRow enc Tryz.prog Tryz.f7 Rows.writeSegmentsRow.domain false Rows.writeSegmentsRow.laid) (((OpenSpec.ofChange Rows.writeSegmentsSpec).at F).post enc Tryz.prog Tryz.f7 false true false false):=by
 obtain⟨places,hx⟩:=writeSegments_reads os enc;refine returnsInHanded_of_row (C:=Tryz.checked) (s:=OpenSpec.ofChange Rows.writeSegmentsSpec) Tryz.own started (by kernel_rfl) Tryz.func7
  (witness_row_at (enc:=enc) (C:=Tryz.checked) false (laidWorld12 os) #[.agg #[.int .i64 0,.int .i64 0,.int .i64 0,.int .i64 0,.int .i64 0,.int .i64 0,.int .i64 0,.int .i64 0,.float .f64 0,.float .f64 0],.agg #[.int .i64 0,.int .i64 0,.bool false],.int .u16 0] rfl (by kernel_rfl) (by kernel_rfl) (by kernel_rfl)
   (OpenSpec.preRow_of_cond 8 hx (by kernel_rfl) (fun k hk=>by cases hk) (by kernel_rfl) (writeSegments_met os))) ?_
 intro W base args ds gs before hval0 hW _ _ _ hL _ _;have hval:∀(j:Nat) t v,Tryz.f7.params[j]? =some t→args[j]? =some v→Value.okWide Tryz.prog W .any base t v:=hval0;have hW':=hW;obtain⟨p,q,hA0,hV,rfl,hfz,hnd⟩:=hW;have hA:DataW.TrodAll enc Tryz.prog W 0 (fun _=>true) true Tryz.f7.params.toList args.toList ds p:=hA0;rw[Tryz.params7]at hA hval;obtain⟨v0,vs0,d0,ds0,p0,q0,hargs,rfl,rfl,h0,r0⟩:=trodAll_cons hA
 obtain⟨v1,vs1,d1,ds1,p1,q1,rfl,rfl,rfl,h1,r1⟩:=trodAll_cons r0;obtain⟨v2,vs2,d2,ds2,p2,q2,rfl,rfl,rfl,h2,r2⟩:=trodAll_cons r1;obtain⟨rfl,rfl,rfl⟩:=trodAll_nil r2;obtain rfl:args=#[v0,v1,v2]:=by cases args;simp_all
 obtain⟨rfl,rfl⟩:=trodVars_none hV;simp only[List.append_nil]at hW';have k0:=h0;have k1:=h1;have k2:=h2;have hlt0:∀x∈p0,x.block<W.heap.size:=fun x hx=>by simpa using hW'.lt x (by simp[hx])
 have hlt1:∀x∈p1,x.block<W.heap.size:=fun x hx=>by simpa using hW'.lt x (by simp[hx])
 have hlt2:∀x∈p2,x.block<W.heap.size:=fun x hx=>by simpa using hW'.lt x (by simp[hx])
 obtain⟨a0,rfl⟩:=open_conf (hval 0 25 v0 rfl rfl) h0;obtain⟨sa1,sd1,sb1,rfl⟩:=open_seg (hval 1 65 v1 rfl rfl) h1;obtain⟨a2,rfl,rfl,rfl,w2⟩:=open_int Tryz.underlying79 (hval 2 79 v2 rfl rfl) h2;have b2:=bounds_u16 w2;clear hA0 hval0;have hwalk:Calls Tryz.prog 7 #[.agg a0.list.toArray,.agg #[.int .i64 sa1,.int .i64 sd1,.bool sb1],.int .u16 a2] W fun e W'=>e= .returned (.bool true)∧Keeps (· <W.heap.size) W W':=by
  obtain⟨n3,hn3⟩:∃n:Nat,a2=(n:Int):=⟨a2.toNat,by omega⟩
  rw[hn3];exact law_segs a0 sa1 sd1 sb1 n3 (by omega) W (pool_writeSegments hL) (tab_writeSegments hL)
 refine hwalk.mono fun e W' ⟨he,hg⟩=>?_;subst he;exact⟨_,rfl,_,_,_,_,_,[],hW',trodAll_cons_mk (shut_bool Tryz.underlying4 _) trodAll_mk0,trodAll_cons_mk (arg_kept (by kernel_rfl) (of_decide_eq_true (by kernel_rfl)) k0 hg hlt0) (trodAll_cons_mk (arg_kept (by kernel_rfl) (of_decide_eq_true (by kernel_rfl)) k1 hg hlt1) (trodAll_cons_mk (arg_kept (by kernel_rfl) (of_decide_eq_true (by kernel_rfl)) k2 hg hlt2) (trodAll_mk0))),rfl,hg.below.frame _,fun h=>by cases h⟩
theorem writeSegments_said:Rows.WriteSegmentsSaid:=
 OpenClaim.holds_of_cond 7 Tryz.f7 rfl rfl rfl rfl rfl rfl rfl ⟨rfl,rfl,rfl,rfl,rfl⟩ rfl rfl rfl rfl rfl (by kernel_rfl) Tryz.func7 (by kernel_rfl)
  (of_decide_eq_true (by kernel_rfl)) (by unfold Func.isWrapper;first|(rw[if_pos (by decide+kernel)];kernel_rfl)|(rw[if_neg (by decide+kernel)];exact⟨rfl,rfl⟩))
  (fun os started H enc _ F=>by rw[OpenClaim.pre_eq_preRow];exact writeSegments_lifted os started H enc F)
theorem writeSegments_plain (f : FuncId) (fn : Func) (hf : Tryz.pinned.checked.prog.funcNamed "plover/ploverlaw12.WriteSegments" = some f) (hfn : Tryz.pinned.checked.prog.funcs[f]? = some fn) :
  false=Tryz.pinned.checked.prog.looks []∧∀(j:Nat) t,fn.params[j]? =some t→Tryz.pinned.checked.prog.wantsStandIn t=false:=by
 obtain rfl : f = 7 := Option.some.inj ((show Tryz.prog.funcNamed "plover/ploverlaw12.WriteSegments" = some 7 by kernel_rfl).symm.trans hf) |>.symm
 obtain rfl:fn=Tryz.f7:=(Option.some.inj (Tryz.func7.symm.trans hfn)).symm;refine⟨by kernel_rfl,fun j t ht=>?_⟩
 rw[Tryz.params7]at ht;have ht':t=25∨t=65∨t=79:=by simpa using Array.mem_of_getElem? ht
 rcases ht' with rfl|rfl|rfl
 ·exact(show Tryz.prog.wantsStandIn 25=false by kernel_rfl)
 ·exact(show Tryz.prog.wantsStandIn 65=false by kernel_rfl)
 ·exact(show Tryz.prog.wantsStandIn 79=false by kernel_rfl)
theorem writeSegments_holds:Rows.WriteSegmentsCardSaid:=
 Claim7.holds_tied_plain_at .later [] _ _ _ _ writeSegments_said (fun _ h=>by cases h) (by kernel_rfl) (fun _ h=>by cases h) writeSegments_row_tie rfl ⟨rfl,rfl⟩ (by kernel_rfl) rfl writeSegments_plain (by kernel_rfl)
end Go.Proofs.YtogdknnkhkjmcaaGreatDoor
