/- Lemmas on the programs that the statement reaches. -/
import Derived.Test.YtogdknnkhkjmcaaGreatDoorKWrN
import Derived.Test.YtogdknnkhkjmcaaGreatDoorKRcH
namespace Go.Proofs.YtogdknnkhkjmcaaGreatDoor
open Go.RowKit
set_option linter.all false
def tfindL (cs:List Int)(b id:Int):Nat→Nat→Int×Bool
 |0,_=>(-1,true)
 |n+1,d=>if(atL cs (b+4*(d:Int)+1)).2=false then(0,false)else if(atL cs (b+4*(d:Int)+1)).1=id then((d:Int),true)else tfindL cs b id n (d+1)
set_option maxRecDepth 100000 in
set_option maxHeartbeats 4000000 in
theorem ref11_find (cs:List Int)(b:Int)(n:Nat)(id:Int)(A:Option Addr)(cp:Nat)(w:World)(K:Nat→Prop)(hb:∀b,K b→b<w.heap.size)(hsl:SlAt w K 1 (.slice A cs.length cp) cs.length (cs.map (Value.int .u32)))(hcn:cs.length≤65536)
  (hbs: -1099511627776≤b∧b≤1099511627776) (hn:n≤65536):
  Z 85 #[.slice A cs.length cp,I b,I n,J id] w fun e w'=>e= .returned (.tuple #[I (tfindL cs b id n 0).1,.bool (tfindL cs b id n 0).2])∧Keeps (· <w.heap.size) w w':=by
 have hat:=fun W (h:SlAt W K 1 (.slice A cs.length cp) cs.length (cs.map (Value.int .u32))) x=>ref10_at cs x A cp W K h hcn;obtain⟨b0,b1⟩:=hbs;obtain⟨res,hres⟩:∃r,r=tfindL cs b id n 0:=⟨_,rfl⟩;rw[←hres];have Hat:=hid hat;have Hb:=hid hb;have Hsl:=hid hsl;have Hres:=hid hres;clear hat hb hsl hres;refine calls_hide fun R' hR'=>?_
 go_enter Tryz.func85,Tryz.ntmps85
 go_wp2_with fail
 go_loopw[10] (fun iv wx=>∃(k:Nat),iv=I (k:Int)∧k≤n∧Hid (res=tfindL cs b id (n-k) k)∧w=wx) (fun iv _=>n-(intOf iv).toNat)
 case atStart=>exact⟨0,rfl,Nat.zero_le _,Hres,rfl⟩
 case round=>
  clear Hres;obtain⟨k,rfl,hk,HE,rfl⟩:=hrel
  by_cases hlt:k<n
  ·have hltI:(k:Int)<(n:Int):=by omega
   have hex:=HE.out;rw[show n-k=(n-(k+1))+1 by omega]at hex
   unfold tfindL at hex;have hw1:IntKind.i64.wrap (4*(k:Int))=4*(k:Int):=IntWalk.i64_in _ (by omega)
   have hw2:IntKind.i64.wrap (b+4*(k:Int))=b+4*(k:Int):=IntWalk.i64_in _ (by omega)
   have hw3:IntKind.i64.wrap (b+4*(k:Int)+1)=b+4*(k:Int)+1:=IntWalk.i64_in _ (by omega)
   have h1:=Hat.out w Hsl.out (b+4*(k:Int)+1);generalize atL cs (b+4*(k:Int)+1)=x1 at*;obtain⟨x,ok⟩:=x1;dsimp only at hex h1;clear HE;have Hex:=hid hex;have H1:=hid h1;clear hex h1
   go_wp2_with fail
   refine H1.out.mono ?_;rintro e w3 ⟨rfl,rfl⟩
   cases ok with
   |false=>
    have hr:res=(0,false):=by rw[Hex.out];rfl
    exact c51
   |true=>
    by_cases hx:x=id
    ·have hxb:(x==id)=true:=by simp[hx]
     have hr:res=((k:Int),true):=by rw[Hex.out,if_neg (by decide),if_pos hx]
     clear hx Hex;exact c51
    ·have hxb:(x==id)=false:=by simp[hx]
     have hr:res=tfindL cs b id (n-(k+1)) (k+1):=by rw[Hex.out,if_neg (by decide),if_neg hx]
     clear hx Hex;exact c115
  ·obtain rfl:k=n:=by omega
   have hltI:¬(k:Int)<(k:Int):=by omega
   have hr:res=(-1,true):=by rw[HE.out,Nat.sub_self];rfl
   clear HE;exact c51
def V6.g6 (v:V6):Nat→Int
 |0=>v.a0
 |1=>v.a1
 |2=>v.a2
 |3=>v.a3
 |4=>v.a4
 |_=>v.a5
theorem all_six {P:Nat→Prop}(h0:P 0)(h1:P 1)(h2:P 2)(h3:P 3)(h4:P 4)(h5:P 5):∀k,k<6→P k
 |0,_=>h0
 |1,_=>h1
 |2,_=>h2
 |3,_=>h3
 |4,_=>h4
 |5,_=>h5
 |k+6,h=>by omega
theorem fitsP_iff (p:PlanM)(u m:V6)(hu:∀k,k<6→0≤u.g6 k∧u.g6 k≤p.size.g6 k∧p.size.g6 k≤65536∧0≤m.g6 k):fitsP p u m=true↔∀k,k<6→m.g6 k≤p.size.g6 k-u.g6 k:=by
 obtain⟨a0,b0,_,d0⟩:=hu 0 (by omega)
 obtain⟨a1,b1,_,d1⟩:=hu 1 (by omega)
 obtain⟨a2,b2,_,d2⟩:=hu 2 (by omega)
 obtain⟨a3,b3,_,d3⟩:=hu 3 (by omega)
 obtain⟨a4,b4,_,d4⟩:=hu 4 (by omega)
 obtain⟨a5,b5,_,d5⟩:=hu 5 (by omega)
 unfold V6.g6 at*;simp only at a0 a1 a2 a3 a4 a5 b0 b1 b2 b3 b4 b5 d0 d1 d2 d3 d4 d5;unfold fitsP;simp only[Bool.and_eq_true,decide_eq_true_eq]
 constructor
 ·rintro⟨⟨⟨⟨⟨h0,h1⟩,h2⟩,h3⟩,h4⟩,h5⟩;exact all_six h0.2.2.2 h1.2.2.2 h2.2.2.2 h3.2.2.2 h4.2.2.2 h5.2.2.2
 ·intro h;exact⟨⟨⟨⟨⟨⟨a0,d0,b0,h 0 (by omega)⟩,⟨a1,d1,b1,h 1 (by omega)⟩⟩,⟨a2,d2,b2,h 2 (by omega)⟩⟩,⟨a3,d3,b3,h 3 (by omega)⟩⟩,⟨a4,d4,b4,h 4 (by omega)⟩⟩,⟨a5,d5,b5,h 5 (by omega)⟩⟩
theorem fitsP_no {p:PlanM}{u m:V6}(hu:∀k,k<6→0≤u.g6 k∧u.g6 k≤p.size.g6 k∧p.size.g6 k≤65536∧0≤m.g6 k){k:Nat}(hk:k<6)(h:¬m.g6 k≤p.size.g6 k-u.g6 k):fitsP p u m=false:=by
 cases e:fitsP p u m with
 |false=>rfl
 |true=>exact absurd ((fitsP_iff p u m hu).1 e k hk) h
set_option maxRecDepth 100000 in
set_option maxHeartbeats 8000000 in
theorem fits_prog6 (p:PlanM)(u m:V6)(w:World)(hu:∀k,k<6→0≤u.g6 k∧u.g6 k≤p.size.g6 k∧p.size.g6 k≤65536∧0≤m.g6 k):
  Z 53 #[p.val,u.val,m.val] w fun e w'=>e= .returned (.bool (fitsP p u m))∧Keeps (· <w.heap.size) w w':=by
 have HU:=hid hu;clear hu;refine calls_hide fun R' hR'=>?_;unfold PlanM.val V6.val
 go_enter Tryz.func53,Tryz.ntmps53
 go_wp2_with fail
 refine wp_gen (fun W=>Blk W w.heap.size p.flat∧Blk W (w.heap.size+1) [I u.a0,I u.a1,I u.a2,I u.a3,I u.a4,I u.a5]∧Blk W (w.heap.size+1+1) [I m.a0,I m.a1,I m.a2,I m.a3,I m.a4,I m.a5]∧Keeps (· <w.heap.size) w W) ⟨?_,?_,?_,?_⟩ ?_
 ·exact c142
 ·exact bA
 ·exact bA
 ·exact kA
 rintro w0 ⟨hb0,hb1,hb2,hk0⟩;generalize hB:w.heap.size=B at*;have hb0':=hb0;unfold PlanM.flat at hb0';obtain⟨z0,z1,z2,z3,z4,z5,z6,z7,z8,z9,z10,z11,z12,z13,z14⟩:=hb0'.c15;clear hb0';have hpl:=hb0.lt;have Hb0:=hid hb0;have Hb1:=hid hb1;have Hb2:=hid hb2;have Hk0:=hid hk0;have HB:=hid hB;clear hb0 hb1 hb2 hk0 hB
 go_wp2_with fail
 clear z0 z1 z2 z3 z4 z5 z6 z7 z8 z9 z10 z11 z12 z13 z14 hpl
 go_loopw[11] (fun vi wr=>∃k:Nat,vi=I (k:Int)∧k≤6∧Hid (Blk wr B p.flat∧Blk wr (B+1) [I u.a0,I u.a1,I u.a2,I u.a3,I u.a4,I u.a5]∧Blk wr (B+1+1) [I m.a0,I m.a1,I m.a2,I m.a3,I m.a4,I m.a5]∧Keeps (· <B) w wr∧∀j,j<k→m.g6 j≤p.size.g6 j-u.g6 j)) (fun i _=>6-(intOf i).toNat)
 case atStart=>exact⟨0,rfl,by omega,hid ⟨Hb0.out,Hb1.out,Hb2.out,Hk0.out,fun j h=>by omega⟩⟩
 case round=>
  clear Hb0 Hb1 Hb2 Hk0;obtain⟨k,rfl,hk,HH⟩:=hrel;obtain⟨hb0,hb1,hb2,hkp,hno⟩:=HH.out;clear HH;have Hkp:=hid hkp;have Hno:=hid hno;clear hkp hno
  by_cases hk4:k<6
  ·have hcases:k=0∨k=1∨k=2∨k=3∨k=4∨k=5:=by omega
   clear hk hk4
   rcases hcases with rfl|rfl|rfl|rfl|rfl|rfl
   ·have c0:=hb0.cell 6;have zz31:=PLift.up @c239;exact c238
   ·have c0:=hb0.cell 7;have zz32:=PLift.up @c242;exact c241
   ·have c0:=hb0.cell 8;have zz33:=PLift.up @c245;exact c244
   ·have c0:=hb0.cell 9;have zz34:=PLift.up @c248;exact c247
   ·have c0:=hb0.cell 10;have zz35:=PLift.up @c251;exact c250
   ·have c0:=hb0.cell 11;have zz36:=PLift.up @c254;exact c253
  ·exact c432
set_option maxRecDepth 100000 in
set_option maxHeartbeats 8000000 in
theorem fits_ref6 (p:PlanM)(u m:V6)(w:World)(hu:∀k,k<6→0≤u.g6 k∧u.g6 k≤p.size.g6 k∧p.size.g6 k≤65536∧0≤m.g6 k):
  Z 64 #[p.val,u.val,m.val] w fun e w'=>e= .returned (.bool (fitsP p u m))∧Keeps (· <w.heap.size) w w':=by
 have HU:=hid hu;clear hu;refine calls_hide fun R' hR'=>?_;unfold PlanM.val V6.val
 go_enter Tryz.func64,Tryz.ntmps64
 go_wp2_with fail
 refine wp_gen (fun W=>Blk W w.heap.size p.flat∧Blk W (w.heap.size+1) [I u.a0,I u.a1,I u.a2,I u.a3,I u.a4,I u.a5]∧Blk W (w.heap.size+1+1) [I m.a0,I m.a1,I m.a2,I m.a3,I m.a4,I m.a5]∧Keeps (· <w.heap.size) w W) ⟨?_,?_,?_,?_⟩ ?_
 ·exact c142
 ·exact bA
 ·exact bA
 ·exact kA
 rintro w0 ⟨hb0,hb1,hb2,hk0⟩;generalize hB:w.heap.size=B at*;have Hb0:=hid hb0;have Hb1:=hid hb1;have Hb2:=hid hb2;have Hk0:=hid hk0;have HB:=hid hB;clear hb0 hb1 hb2 hk0 hB
 go_loopw[7] (fun vi wr=>∃k:Nat,vi=I (k:Int)∧k≤6∧Hid (Blk wr B p.flat∧Blk wr (B+1) [I u.a0,I u.a1,I u.a2,I u.a3,I u.a4,I u.a5]∧Blk wr (B+1+1) [I m.a0,I m.a1,I m.a2,I m.a3,I m.a4,I m.a5]∧Keeps (· <B) w wr∧∀j,j<k→m.g6 j≤p.size.g6 j-u.g6 j)) (fun i _=>6-(intOf i).toNat)
 case atStart=>exact⟨0,rfl,by omega,hid ⟨Hb0.out,Hb1.out,Hb2.out,Hk0.out,fun j h=>by omega⟩⟩
 case round=>
  clear Hb0 Hb1 Hb2 Hk0;obtain⟨k,rfl,hk,HH⟩:=hrel;obtain⟨hb0,hb1,hb2,hkp,hno⟩:=HH.out;clear HH;have Hkp:=hid hkp;have Hno:=hid hno;clear hkp hno
  by_cases hk4:k<6
  ·have hcases:k=0∨k=1∨k=2∨k=3∨k=4∨k=5:=by omega
   clear hk hk4
   rcases hcases with rfl|rfl|rfl|rfl|rfl|rfl
   ·have c0:=hb0.cell 6;have zz31:=PLift.up @c240;exact c238
   ·have c0:=hb0.cell 7;have zz32:=PLift.up @c243;exact c241
   ·have c0:=hb0.cell 8;have zz33:=PLift.up @c246;exact c244
   ·have c0:=hb0.cell 9;have zz34:=PLift.up @c249;exact c247
   ·have c0:=hb0.cell 10;have zz35:=PLift.up @c252;exact c250
   ·have c0:=hb0.cell 11;have zz36:=PLift.up @c255;exact c253
  ·exact c432
theorem fitL_len (n:Nat):∀(rs:List Int) (acc:List UInt8),acc.length≤n→(fitL n acc rs).length≤n
 | [],acc,h=>h
 |r::rs,acc,h=>by
  rw[fitL_cons]
  split
  ·exact h
  ·exact fitL_len n rs _ (by rw[List.length_append];omega)
theorem fitS_size (n:Nat)(rs:List Int):(fitS n rs).size≤n:=by
 show(fitL n [] rs).toArray.size≤n;rw[List.size_toArray];exact fitL_len n rs [] (Nat.zero_le _)
theorem wordsL_size:∀(f p:Nat) (rs:List Int),∀y∈wordsL f p rs,y.1.size≤16
 |0,_,_,y,h=>by cases h
 |_+1,_,[],y,h=>by cases h
 |f+1,p,r::rs,y,h=>by
  unfold wordsL at h
  split at h
  ·split at h
   ·exact wordsL_size f _ _ y h
   ·rcases List.mem_cons.1 h with rfl|h
    ·exact fitS_size 16 _
    ·exact wordsL_size f _ _ y h
  ·exact wordsL_size f _ _ y h
structure A1 (w W:World)(K G:Nat→Prop)(r m c B:Nat)(cf:ConfM)(x:WrM)(v:Value)(dv:List Value)(s:St):Prop where
 rm:RM W G r m c s
 kp:Keeps K w W
 sub:∀b,K b→G b
 gb:∀b,B≤b→b<B+1+1+1+1→G b
 lt:∀b,K b→b<B
 b0:Blk W B cf.list
 b1:Blk W (B+1) (x.vals v)
 b2:Blk W (B+1+1) dv
 b3:Blk W (B+1+1+1) zer9
section
variable {w W W':World}{K G G':Nat→Prop}{r m c B:Nat}{cf:ConfM}{x:WrM}{v:Value}{dv:List Value}{s s':St}
theorem A1.grow (h:A1 w W K G r m c B cf x v dv s)(hG:∀b,G b→G' b)(h1:RM W' G' r m c s')(h2:Keeps G W W'):A1 w W' K G' r m c B cf x v dv s':=
 ⟨h1,h.kp.trans (h2.mono h.sub),fun b hb=>hG b (h.sub b hb),fun b h3 h4=>hG b (h.gb b h3 h4),h.lt,h.b0.keep h2 (h.gb _ (by omega) (by omega)),h.b1.keep h2 (h.gb _ (by omega) (by omega)),h.b2.keep h2 (h.gb _ (by omega) (by omega)),h.b3.keep h2 (h.gb _ (by omega) (by omega))⟩
theorem A1.keep (h:A1 w W K G r m c B cf x v dv s)(h1:RM W' G r m c s')(h2:Keeps G W W'):A1 w W' K G r m c B cf x v dv s':=h.grow (fun _ hb=>hb) h1 h2
theorem A1.below (h:A1 w W K G r m c B cf x v dv s)(h2:Keeps (· <W.heap.size) W W'):A1 w W' K G r m c B cf x v dv s:=h.keep (h.rm.below h2) (h2.mono h.rm.lt)
theorem A1.more (h:A1 w W K G r m c B cf x v dv s)(h2:Keeps (· <W.heap.size) W W'):A1 w W' K (fun b=>G b∨(W.heap.size≤b∧b<W'.heap.size)) r m c B cf x v dv s:=
 h.grow (fun _ hb=>Or.inl hb) (h.rm.moreB h2) (h2.mono h.rm.lt)
theorem A1.setW (h:A1 w W K G r m c B cf x v dv s)(j:Nat)(u:Value){x':WrM}{v':Value}(hx:x'.vals v'=(x.vals v).set j u):A1 w (W.setCell ⟨B+1,j,none⟩ u) K G r m c B cf x' v' dv s:=
 ⟨h.rm.setK (a:=⟨B+1,j,none⟩) (h.gb (B+1) (by omega) (by omega)) _,h.kp.setCell (p:=⟨B+1,j,none⟩) (fun hk=>by have:=h.lt (B+1) hk;omega) _,h.sub,h.gb,h.lt,h.b0.set_ne (a:=⟨B+1,j,none⟩) _ (by show B≠B+1;omega),by rw[hx];exact h.b1.set j u,h.b2.set_ne (a:=⟨B+1,j,none⟩) _ (by show B+1+1≠B+1;omega),h.b3.set_ne (a:=⟨B+1,j,none⟩) _ (by show B+1+1+1≠B+1;omega)⟩
theorem A1.setG (h:A1 w W K G r m c B cf x v dv s){b j:Nat}(u:Value)(hg:G b)(hb:B+1+1+1<b):A1 w (W.setCell ⟨b,j,none⟩ u) K G r m c B cf x v dv s:=
 ⟨h.rm.setK (a:=⟨b,j,none⟩) hg _,h.kp.setCell (p:=⟨b,j,none⟩) (fun hk=>by have:=h.lt b hk;omega) _,h.sub,h.gb,h.lt,h.b0.set_ne (a:=⟨b,j,none⟩) _ (by show B≠b;omega),h.b1.set_ne (a:=⟨b,j,none⟩) _ (by show B+1≠b;omega),h.b2.set_ne (a:=⟨b,j,none⟩) _ (by show B+1+1≠b;omega),h.b3.set_ne (a:=⟨b,j,none⟩) _ (by show B+1+1+1≠b;omega)⟩
theorem A1.conv (h:A1 w W K G r m c B cf x v dv s)(hG:∀b,G' b↔G b):A1 w W K G' r m c B cf x v dv s:=
 ⟨h.rm.mono fun b hb=>(hG b).1 hb,h.kp,fun b hb=>(hG b).2 (h.sub b hb),fun b h1 h2=>(hG b).2 (h.gb b h1 h2),h.lt,h.b0,h.b1,h.b2,h.b3⟩
theorem A1.keepK (h:A1 w W K G r m c B cf x v dv s){K2:Nat→Prop}(hK:∀b,K b→K2 b)(hB:∀b,B≤b→b<B+1+1+1+1→K2 b)(h1:RM W' G r m c s')(h2:Keeps K2 W W'):A1 w W' K G r m c B cf x v dv s':=
 ⟨h1,h.kp.trans (h2.mono hK),h.sub,h.gb,h.lt,h.b0.keep h2 (hB _ (by omega) (by omega)),h.b1.keep h2 (hB _ (by omega) (by omega)),h.b2.keep h2 (hB _ (by omega) (by omega)),h.b3.keep h2 (hB _ (by omega) (by omega))⟩
theorem A1.less (h:A1 w W K G r m c B cf x v dv s)(hG:∀b,G' b→G b)(hs:∀b,K b→G' b)(hb:∀b,B≤b→b<B+1+1+1+1→G' b):A1 w W K G' r m c B cf x v dv s:=
 ⟨h.rm.mono hG,h.kp,hs,hb,h.lt,h.b0,h.b1,h.b2,h.b3⟩
theorem keeps_setU (w:World)(b:Nat)(u:V6):Keeps (· ≠b) w ((((((w.setCell ⟨b,3,none⟩ (I u.a0)).setCell ⟨b,4,none⟩ (I u.a1)).setCell ⟨b,5,none⟩ (I u.a2)).setCell ⟨b,6,none⟩ (I u.a3)).setCell ⟨b,7,none⟩ (I u.a4)).setCell ⟨b,8,none⟩ (I u.a5)):=
 have hn:∀i,¬(fun x=>x≠b) (⟨b,i,none⟩:Addr).block:=fun _ h=>h rfl
 ((((((Keeps.refl (· ≠b) w).setCell (p:=⟨b,3,none⟩) (hn 3) _).setCell (p:=⟨b,4,none⟩) (hn 4) _).setCell (p:=⟨b,5,none⟩) (hn 5) _).setCell (p:=⟨b,6,none⟩) (hn 6) _).setCell (p:=⟨b,7,none⟩) (hn 7) _).setCell (p:=⟨b,8,none⟩) (hn 8) _
theorem A1.out (h:A1 w W K G r m c B cf x v dv s):Blk (((((((((W.setCell ⟨B+1+1+1,0,none⟩ v).setCell ⟨B+1+1+1,1,none⟩ (I x.terms)).setCell ⟨B+1+1+1,2,none⟩ (J x.ver)).setCell ⟨B+1+1+1,3,none⟩ (I x.used.a0)).setCell ⟨B+1+1+1,4,none⟩ (I x.used.a1)).setCell ⟨B+1+1+1,5,none⟩ (I x.used.a2)).setCell ⟨B+1+1+1,6,none⟩ (I x.used.a3)).setCell ⟨B+1+1+1,7,none⟩ (I x.used.a4)).setCell ⟨B+1+1+1,8,none⟩ (I x.used.a5)) (B+1+1+1) (x.vals v)∧RM (((((((((W.setCell ⟨B+1+1+1,0,none⟩ v).setCell ⟨B+1+1+1,1,none⟩ (I x.terms)).setCell ⟨B+1+1+1,2,none⟩ (J x.ver)).setCell ⟨B+1+1+1,3,none⟩ (I x.used.a0)).setCell ⟨B+1+1+1,4,none⟩ (I x.used.a1)).setCell ⟨B+1+1+1,5,none⟩ (I x.used.a2)).setCell ⟨B+1+1+1,6,none⟩ (I x.used.a3)).setCell ⟨B+1+1+1,7,none⟩ (I x.used.a4)).setCell ⟨B+1+1+1,8,none⟩ (I x.used.a5)) G r m c s∧Keeps K w (((((((((W.setCell ⟨B+1+1+1,0,none⟩ v).setCell ⟨B+1+1+1,1,none⟩ (I x.terms)).setCell ⟨B+1+1+1,2,none⟩ (J x.ver)).setCell ⟨B+1+1+1,3,none⟩ (I x.used.a0)).setCell ⟨B+1+1+1,4,none⟩ (I x.used.a1)).setCell ⟨B+1+1+1,5,none⟩ (I x.used.a2)).setCell ⟨B+1+1+1,6,none⟩ (I x.used.a3)).setCell ⟨B+1+1+1,7,none⟩ (I x.used.a4)).setCell ⟨B+1+1+1,8,none⟩ (I x.used.a5))∧Keeps (· ≠B+1+1+1) W (((((((((W.setCell ⟨B+1+1+1,0,none⟩ v).setCell ⟨B+1+1+1,1,none⟩ (I x.terms)).setCell ⟨B+1+1+1,2,none⟩ (J x.ver)).setCell ⟨B+1+1+1,3,none⟩ (I x.used.a0)).setCell ⟨B+1+1+1,4,none⟩ (I x.used.a1)).setCell ⟨B+1+1+1,5,none⟩ (I x.used.a2)).setCell ⟨B+1+1+1,6,none⟩ (I x.used.a3)).setCell ⟨B+1+1+1,7,none⟩ (I x.used.a4)).setCell ⟨B+1+1+1,8,none⟩ (I x.used.a5)):=by
 have hb:G (B+1+1+1):=h.gb _ (by omega) (by omega)
 have hK:¬K (B+1+1+1):=fun hk=>by have:=h.lt _ hk;omega
 have hN:¬(fun b=>b≠B+1+1+1) (B+1+1+1):=fun hk=>hk rfl;have h2:=h.b3;unfold zer9 at h2;refine⟨(((((((((h2.set 0 v).set 1 (I x.terms)).set 2 (J x.ver)).set 3 (I x.used.a0)).set 4 (I x.used.a1)).set 5 (I x.used.a2)).set 6 (I x.used.a3)).set 7 (I x.used.a4)).set 8 (I x.used.a5)),?_,?_,?_⟩
 ·exact(((((((((h.rm.setK (a:=⟨B+1+1+1,0,none⟩) hb v).setK (a:=⟨B+1+1+1,1,none⟩) hb (I x.terms)).setK (a:=⟨B+1+1+1,2,none⟩) hb (J x.ver)).setK (a:=⟨B+1+1+1,3,none⟩) hb (I x.used.a0)).setK (a:=⟨B+1+1+1,4,none⟩) hb (I x.used.a1)).setK (a:=⟨B+1+1+1,5,none⟩) hb (I x.used.a2)).setK (a:=⟨B+1+1+1,6,none⟩) hb (I x.used.a3)).setK (a:=⟨B+1+1+1,7,none⟩) hb (I x.used.a4)).setK (a:=⟨B+1+1+1,8,none⟩) hb (I x.used.a5))
 ·exact(((((((((h.kp.setCell (p:=⟨B+1+1+1,0,none⟩) hK v).setCell (p:=⟨B+1+1+1,1,none⟩) hK (I x.terms)).setCell (p:=⟨B+1+1+1,2,none⟩) hK (J x.ver)).setCell (p:=⟨B+1+1+1,3,none⟩) hK (I x.used.a0)).setCell (p:=⟨B+1+1+1,4,none⟩) hK (I x.used.a1)).setCell (p:=⟨B+1+1+1,5,none⟩) hK (I x.used.a2)).setCell (p:=⟨B+1+1+1,6,none⟩) hK (I x.used.a3)).setCell (p:=⟨B+1+1+1,7,none⟩) hK (I x.used.a4)).setCell (p:=⟨B+1+1+1,8,none⟩) hK (I x.used.a5))
 ·exact((((((((((Keeps.refl (· ≠B+1+1+1) W).setCell (p:=⟨B+1+1+1,0,none⟩) hN v).setCell (p:=⟨B+1+1+1,1,none⟩) hN (I x.terms)).setCell (p:=⟨B+1+1+1,2,none⟩) hN (J x.ver)).setCell (p:=⟨B+1+1+1,3,none⟩) hN (I x.used.a0)).setCell (p:=⟨B+1+1+1,4,none⟩) hN (I x.used.a1)).setCell (p:=⟨B+1+1+1,5,none⟩) hN (I x.used.a2)).setCell (p:=⟨B+1+1+1,6,none⟩) hN (I x.used.a3)).setCell (p:=⟨B+1+1+1,7,none⟩) hN (I x.used.a4)).setCell (p:=⟨B+1+1+1,8,none⟩) hN (I x.used.a5))
end
theorem A1.setU {w W:World}{K G:Nat→Prop}{r m c B:Nat}{cf:ConfM}{x:WrM}{v:Value}{dv:List Value}{s:St}(h:A1 w W K G r m c B cf x v dv s)(u:V6):A1 w ((((((W.setCell ⟨B+1,3,none⟩ (I u.a0)).setCell ⟨B+1,4,none⟩ (I u.a1)).setCell ⟨B+1,5,none⟩ (I u.a2)).setCell ⟨B+1,6,none⟩ (I u.a3)).setCell ⟨B+1,7,none⟩ (I u.a4)).setCell ⟨B+1,8,none⟩ (I u.a5)) K G r m c B cf { x with used:=u } v dv s:=
 ((((((h.setW 3 (I u.a0) (x':={ x with used:=⟨u.a0,x.used.a1,x.used.a2,x.used.a3,x.used.a4,x.used.a5⟩ }) (v':=v) rfl).setW 4 (I u.a1) (x':={ x with used:=⟨u.a0,u.a1,x.used.a2,x.used.a3,x.used.a4,x.used.a5⟩ }) (v':=v) rfl).setW 5 (I u.a2) (x':={ x with used:=⟨u.a0,u.a1,u.a2,x.used.a3,x.used.a4,x.used.a5⟩ }) (v':=v) rfl).setW 6 (I u.a3) (x':={ x with used:=⟨u.a0,u.a1,u.a2,u.a3,x.used.a4,x.used.a5⟩ }) (v':=v) rfl).setW 7 (I u.a4) (x':={ x with used:=⟨u.a0,u.a1,u.a2,u.a3,u.a4,x.used.a5⟩ }) (v':=v) rfl).setW 8 (I u.a5) (x':={ x with used:=⟨u.a0,u.a1,u.a2,u.a3,u.a4,u.a5⟩ }) (v':=v) rfl)
theorem A1.ver {w W:World}{K G:Nat→Prop}{r m c B:Nat}{cf:ConfM}{x:WrM}{v:Value}{dv:List Value}{s:St}(h:A1 w W K G r m c B cf x v dv s)(y:Int):A1 w (W.setCell ⟨B+1,2,none⟩ (J y)) K G r m c B cf { x with ver:=y } v dv s:=h.setW 2 _ rfl
theorem A1.trm {w W:World}{K G:Nat→Prop}{r m c B:Nat}{cf:ConfM}{x:WrM}{v:Value}{dv:List Value}{s:St}(h:A1 w W K G r m c B cf x v dv s)(y:Int):A1 w (W.setCell ⟨B+1,1,none⟩ (I y)) K G r m c B cf { x with terms:=y } v dv s:=h.setW 1 _ rfl
theorem A1.seg {w W:World}{K G:Nat→Prop}{r m c B:Nat}{cf:ConfM}{x:WrM}{v:Value}{dv:List Value}{s:St}(h:A1 w W K G r m c B cf x v dv s)(v':Value)(l:List SegM):A1 w (W.setCell ⟨B+1,0,none⟩ v') K G r m c B cf { x with segs:=l } v' dv s:=h.setW 0 _ rfl
structure PlanOk (p:PlanM):Prop where
 wf:p.Wf
 n0:1≤p.slots
 n1:p.slots≤512
 s4:p.size.a4≤65536
 b4:0≤p.base.a4∧p.base.a4≤65536
 g:∀k,k<6→0≤p.size.g6 k∧p.size.g6 k≤65536
theorem plan_facts {c:ConfM}(h:c.ok)(ha:c.all≤65536):PlanOk c.plan:=by
 obtain⟨a1,a2,a3,a4,b1,b2,b3,b4,b5,b6,b7,b8,d1,d2,d3,d4⟩:=h;unfold ConfM.all at ha;refine⟨⟨fun k=>?_,fun k=>?_⟩,?_,?_,?_,?_,all_six ?_ ?_ ?_ ?_ ?_ ?_⟩
 ·unfold PlanM.bK ConfM.plan
  split<;>dsimp only<;>omega
 ·unfold PlanM.sK ConfM.plan
  split<;>dsimp only<;>omega
 ·unfold ConfM.plan;dsimp only;split<;>(try split)<;>omega
 ·unfold ConfM.plan;dsimp only;split<;>(try split)<;>omega
 ·unfold ConfM.plan;dsimp only;omega
 ·unfold ConfM.plan;dsimp only;omega
 ·show 0≤4*c.s0∧4*c.s0≤65536;omega
 ·show 0≤16*c.s1∧16*c.s1≤65536;omega
 ·show 0≤64*c.s2∧64*c.s2≤65536;omega
 ·show 0≤256*c.s3∧256*c.s3≤65536;omega
 ·show 0≤c.book∧c.book≤65536;omega
 ·show 0≤c.room∧c.room≤65536;omega
theorem last_ix {α:Type}{l:List α}{x:α}(h:l.getLast?=some x):∃k,l.length=k+1∧l[k]? =some x:=by
 have hne:l≠[]:=fun e=>by rw[e]at h;cases h
 have hp:=List.length_pos_iff.2 hne;refine⟨l.length-1,by omega,?_⟩
 rwa [List.getLast?_eq_getElem?]at h
def hasK (key:ByteArray)(l:List TermM):Prop:=∃t∈l,t.key=key
theorem hasK.ix {key:ByteArray}{l:List TermM}(h:hasK key l):∃t0,l[keyIx key l]? =some t0:=by
 obtain⟨t,ht,rfl⟩:=h;have:keyIx t.key l<l.length:=List.findIdx_lt_length_of_exists ⟨t,ht,by simp⟩
 exact⟨_,List.getElem?_eq_getElem this⟩
theorem keyIx_key {key:ByteArray}{l:List TermM}{t:TermM}(h:l[keyIx key l]? =some t):t.key=key:=key_same (keyIx_hit h)
structure TermsOk (k:Nat)(l:List TermM):Prop where
 t:∀t∈l,U32 t.tl∧(0≤t.cnt∧t.cnt≤k)∧t.key.size≤901
 len:l.length≤k
theorem termsT_ok (s0:Int)(n:Nat)(hn:0<n):∀(l:List TokI) (out:List TermM) (k:Nat),(∀x∈l,x.2.1.size≤900)→TermsOk k out→
  (termsT s0 n l out).Says U32 fun r=>TermsOk (k+l.length) r∧(∀key,hasK key out→hasK key r)∧∀x∈l,hasK (keyB x.1 x.2.1) r
 | [],out,k,_,h=>⟨h,fun _ h=>h,fun x hx=>by cases hx⟩
 |x::l,out,k,hx,h=>by
  have z0:U32 0:=⟨by decide,by decide⟩
  have hs:=hx x List.mem_cons_self;have hkz:=keyB_size x.1 x.2.1;have hl:∀y∈l,y.2.1.size≤900:=fun y hy=>hx y (List.mem_cons_of_mem _ hy);have hk1:k+(x::l).length=k+1+l.length:=by rw[List.length_cons];omega
  have fin:∀{t:Tree (List TermM)} {out':List TermM},(t.Says U32 fun r=>TermsOk (k+1+l.length) r∧(∀key,hasK key out'→hasK key r)∧∀x∈l,hasK (keyB x.1 x.2.1) r)→(∀key,hasK key out→hasK key out')→hasK (keyB x.1 x.2.1) out'→
    t.Says U32 fun r=>TermsOk (k+(x::l).length) r∧(∀key,hasK key out→hasK key r)∧∀y∈x::l,hasK (keyB y.1 y.2.1) r:=fun ht h1 h2=>ht.mono fun r ⟨g1,g2,g3⟩=>by
   rw[hk1];refine⟨g1,fun key hk=>g2 key (h1 key hk),fun y hy=>?_⟩
   rcases List.mem_cons.1 hy with rfl|hy
   ·exact g2 _ h2
   ·exact g3 y hy
  have app:∀(rc tl:Int),U32 tl→(termsT s0 n l (out++[⟨keyB x.1 x.2.1,rc,tl,1⟩])).Says U32 fun r=>TermsOk (k+(x::l).length) r∧(∀key,hasK key out→hasK key r)∧∀y∈x::l,hasK (keyB y.1 y.2.1) r:=fun rc tl htl=>by
   refine fin (termsT_ok s0 n hn l (out++[⟨keyB x.1 x.2.1,rc,tl,1⟩]) (k+1) hl ⟨fun t ht=>?_,by rw[List.length_append];have:=h.len;simp;omega⟩) (fun key ⟨t,h1,h2⟩=>⟨t,List.mem_append_left _ h1,h2⟩) ⟨_,List.mem_append_right _ (List.mem_singleton.2 rfl),rfl⟩
   rcases List.mem_append.1 ht with h1|h1
   ·obtain⟨a,b,d⟩:=h.t t h1;exact⟨a,⟨b.1,by have:=b.2;omega⟩,d⟩
   ·rw[List.mem_singleton.1 h1];exact⟨htl,⟨by show(0:Int)≤1;omega,by show(1:Int)≤_;omega⟩,by dsimp only;omega⟩
  unfold termsT
  split
  ·rename_i t ht
   obtain⟨a,b,d⟩:=h.t t (List.mem_of_getElem? ht);have hkk:=keyIx_key ht;refine fin (out':=out.set (keyIx (keyB x.1 x.2.1) out) { t with cnt:=t.cnt+1 }) (termsT_ok s0 n hn l _ (k+1) hl ⟨fun t' ht'=>?_,by rw[List.length_set];have:=h.len;omega⟩) ?_ ?_
   ·rcases List.mem_or_eq_of_mem_set ht' with h1|rfl
    ·obtain⟨a,b,d⟩:=h.t t' h1;exact⟨a,⟨b.1,by have:=b.2;omega⟩,d⟩
    ·exact⟨a,⟨by dsimp only;omega,by dsimp only;omega⟩,d⟩
   ·rintro key ⟨t',h1,h2⟩;obtain⟨j,hj,rfl⟩:=List.getElem_of_mem h1
    by_cases e:j=keyIx (keyB x.1 x.2.1) out
    ·subst e;rw[List.getElem?_eq_getElem hj]at ht;injection ht with ht
     exact⟨_,List.mem_iff_getElem.2 ⟨_,by rw[List.length_set];exact hj,List.getElem_set_self ..⟩,by rw[←h2,ht]⟩
    ·exact⟨out[j],List.mem_iff_getElem.2 ⟨j,by rw[List.length_set];exact hj,List.getElem_set_ne (fun h=>e h.symm) ..⟩,h2⟩
   ·have hj:=(List.getElem?_eq_some_iff.1 ht).1;exact⟨{ t with cnt:=t.cnt+1 },List.mem_iff_getElem.2 ⟨_,by rw[List.length_set];exact hj,List.getElem_set_self ..⟩,hkk⟩
  ·unfold lookT;refine Tree.Says.bind (Tree.Says.bind ((findD_says z0 s0 n _ _ _ hn n 0).mono fun q _=>?_))
   split
   ·exact app 0 0 z0
   ·intro v hv;exact app _ v hv
theorem wordT_ok {p:PlanM}{s0 d:Int}{n:Nat}{x:TokI}{all:List TermM}{u:V6}{s:St}(hp:p.Wf)(hu:UIn p u)(hall:∀t∈all,U32 t.tl):
  UIn p ((wordT p s0 n d x all u).exec s).1.2∧(∀t∈((wordT p s0 n d x all u).exec s).1.1,U32 t.tl)∧((wordT p s0 n d x all u).exec s).1.1.map (·.key)=all.map (·.key):=by
 unfold wordT
 cases e:all[keyIx (keyB x.1 x.2.1) all]? with
 |none=>exact⟨hu,hall,rfl⟩
 |some t=>
  dsimp only;rw[Tree.exec_bind,Tree.exec_bind];have h1:UIn p ((recT p s0 n t u).exec s).1.2:=by
   unfold recT
   split
   ·rw[Tree.exec_bind];exact dictPutT_ok hu
   ·exact hu
  have h2:=postPutT_ok (p:=p) (u:=((recT p s0 n t u).exec s).1.2) (t:=t.tl) (v:=wordOf d x.2.2) (s:=((recT p s0 n t u).exec s).2) hp h1 (hall t (List.mem_of_getElem? e));refine⟨h2.1,fun t' ht'=>?_,?_⟩
  ·rcases List.mem_or_eq_of_mem_set (ht':t'∈all.set _ _)with h|rfl
   ·exact hall t' h
   ·exact h2.2
  ·show(all.set _ _).map _=_;rw[List.map_set];obtain⟨hj,he⟩:=List.getElem?_eq_some_iff.1 e;refine List.ext_getElem? fun i=>?_
   by_cases hi:i=keyIx (keyB x.1 x.2.1) all
   ·subst hi;rw[List.getElem?_set_self (by rw[List.length_map];exact hj),List.getElem?_map,e];rfl
   ·rw[List.getElem?_set_ne (fun e=>hi e.symm)]
theorem wordsT_cons (p:PlanM)(s0:Int)(n:Nat)(d:Int)(x:TokI)(l:List TokI)(all:List TermM)(u:V6)(s:St):(wordsT p s0 n d (x::l) all u).exec s=(wordsT p s0 n d l ((wordT p s0 n d x all u).exec s).1.1 ((wordT p s0 n d x all u).exec s).1.2).exec ((wordT p s0 n d x all u).exec s).2:=by
 show((wordT p s0 n d x all u).bind _).exec s=_;rw[Tree.exec_bind]
theorem needsP_pos (p:PlanM):∀(l:List TermM) (fr:Int) (more:V6),0≤fr→(∀k,k<6→0≤more.g6 k)→(∀k,k<6→0≤(needsP p l fr more).2.g6 k)∧0≤(needsP p l fr more).1∧(needsP p l fr more).1≤fr+(l.length:Nat)
 | [],fr,more,h,hm=>⟨hm,h,by simp[needsP]⟩
 |t::l,fr,more,h,hm=>by
  rw[needsP_cons];obtain⟨a0,a1,a2,a3,a4,a5⟩:=need_in p t.tl t.cnt;have m0:=hm 0 (by decide)
  have m1:=hm 1 (by decide)
  have m2:=hm 2 (by decide)
  have m3:=hm 3 (by decide)
  have m4:=hm 4 (by decide)
  have m5:=hm 5 (by decide)
  simp only[V6.g6]at m0 m1 m2 m3 m4 m5
  split
  ·obtain⟨g1,g2,g3⟩:=needsP_pos p l (fr+1) ({ more with a4:=more.a4+(2+(((t.key.size+3)/4:Nat):Int)) }.sum (p.need t.tl t.cnt)) (by omega) (all_six (by show 0≤more.a0+_;omega) (by show 0≤more.a1+_;omega) (by show 0≤more.a2+_;omega) (by show 0≤more.a3+_;omega) (by show 0≤more.a4+(2+(((t.key.size+3)/4:Nat):Int))+_;omega) (by show 0≤more.a5+_;omega))
   exact⟨g1,g2,by rw[List.length_cons];omega⟩
  ·obtain⟨g1,g2,g3⟩:=needsP_pos p l fr (more.sum (p.need t.tl t.cnt)) h (all_six (by show 0≤more.a0+_;omega) (by show 0≤more.a1+_;omega) (by show 0≤more.a2+_;omega) (by show 0≤more.a3+_;omega) (by show 0≤more.a4+_;omega) (by show 0≤more.a5+_;omega))
   exact⟨g1,g2,by rw[List.length_cons];omega⟩
theorem UIn.g6 {p:PlanM}{u:V6}(h:UIn p u):∀k,k<6→0≤u.g6 k∧u.g6 k≤p.size.g6 k:=by
 obtain⟨h0,h1,h2,h3,h4,h5⟩:=h;exact all_six h0 h1 h2 h3 h4 h5
theorem moreDocs_set {l:List SegM}{k:Nat}{a:SegM}(hk:l.length=k+1)(h:l[k]? =some a):l.set k { a with docs:=a.docs+1 }=moreDocs l:=by
 have hne:l≠[]:=fun e=>by rw[e]at hk;cases hk
 have hl:l.getLast?=some a:=by rw[List.getLast?_eq_getElem?,hk];exact h
 have ha:l.getLast hne=a:=by rw[List.getLast?_eq_some_getLast hne]at hl;injection hl
 unfold moreDocs;rw[hl];have e:l=l.dropLast++[a]:=by rw[←ha];exact(List.dropLast_concat_getLast hne).symm
 have hd:l.dropLast.length=k:=by rw[List.length_dropLast];omega
 have:(l.dropLast++[a]).set k { a with docs:=a.docs+1 }=l.dropLast++[{ a with docs:=a.docs+1 }]:=by
  rw[List.set_append_right _ _ (by omega),hd,Nat.sub_self];rfl
 rw[←e]at this;exact this
theorem hasK_map {key:ByteArray}{l l':List TermM}(h:hasK key l)(e:l'.map (·.key)=l.map (·.key)):hasK key l':=by
 obtain⟨t,h1,h2⟩:=h;have:key∈l.map (·.key):=List.mem_map.2 ⟨t,h1,h2⟩;rw[←e]at this;obtain⟨t',h3,h4⟩:=List.mem_map.1 this;exact⟨t',h3,h4⟩
theorem toksL_small:∀(fs:List ByteArray) (i:Nat),i+fs.length≤255→∀t∈toksL i fs,(0≤t.1∧t.1≤255)∧t.2.1.size≤16
 | [],i,_,t,h=>by cases h
 |f::fs,i,hi,t,h=>by
  rw[List.length_cons]at hi
  rcases List.mem_append.1 (h:t∈_++toksL (i+1) fs)with h|h
  ·obtain⟨y,hy,rfl⟩:=List.mem_map.1 h;exact⟨⟨by show(0:Int)≤(i:Int);omega,by show(i:Int)≤255;omega⟩,wordsL_size _ _ _ y hy⟩
  ·exact toksL_small fs (i+1) (by omega) t h
theorem toksM_small {fs:List ByteArray}{l:List TokI}(h:toksM fs=some l):(∀t∈l,(0≤t.1∧t.1≤255)∧t.2.1.size≤16)∧l.length≤64:=by
 unfold toksM at h
 split at h
 ·cases h
 ·rename_i hl
  split at h
  ·cases h
  ·rename_i h64
   injection h with h
   subst h;have h4:fs.length≤4:=by
    unfold longF at hl
    simp at hl
    omega
   exact⟨toksL_small fs 0 (by omega),by omega⟩
structure RefS where
 cells:List Int
 W:WrM
def rplaceL (cs:List Int)(id:Int):List SegM→Nat→Int×Int×Bool
 | [],_=>(0,0,false)
 |x::l,i=>if 0≤(tfindL cs x.base id x.docs 0).1 then((i:Int),(tfindL cs x.base id x.docs 0).1,true)else rplaceL cs id l (i+1)
theorem tfindL_range (cs:List Int)(b id:Int):∀n d,-1≤(tfindL cs b id n d).1∧(tfindL cs b id n d).1≤((n+d:Nat):Int)
 |0,d=>⟨Int.le_refl _,by show(-1:Int)≤_;omega⟩
 |n+1,d=>by
  have ih:=tfindL_range cs b id n (d+1);unfold tfindL
  split
  ·exact⟨by show(-1:Int)≤0;omega,by show(0:Int)≤_;omega⟩
  ·split
   ·exact⟨by show(-1:Int)≤(d:Int);omega,by show(d:Int)≤_;omega⟩
   ·exact⟨ih.1,by have:=ih.2;omega⟩
theorem ref12_base (x:SegM)(w:World)(ha:Small x.addr):Z 21 #[.agg #[I x.addr,I x.docs,.bool x.sealed]] w fun e w'=>e= .returned (I x.base)∧Keeps (· <w.heap.size) w w':=by
 obtain⟨addr,docs,sealed⟩:=x;have hk:Keeps (· <w.heap.size) w (w.alloc (.cells #[I addr,I docs,.bool sealed] 65)):=(Keeps.refl _ _).alloc (fun b hb=>hb) _;obtain⟨h0,h1⟩:=ha;dsimp only at h0 h1;have Hk:=hid hk;clear hk;refine calls_hide fun R' hR'=>?_
 go_enter Tryz.func21,Tryz.ntmps21
 cases sealed with
 |true=>
  go_wp2_with fail
  exact hR'.out _ _ ⟨rfl,Hk.out⟩
 |false=>
  go_wp2_with fail
  exact hR'.out _ _ ⟨rfl,Hk.out⟩
set_option maxRecDepth 100000 in
set_option maxHeartbeats 4000000 in
theorem ref12_place (cs:List Int)(segs:List SegM)(wt wv u0 u1 u2 u3 u4 u5:Int)(id:Int)(A:Option Addr)(cp:Nat)(A2:Option Addr)(cp2:Nat)(w:World)(K:Nat→Prop)(hb:∀b,K b→b<w.heap.size)(hsl:SlAt w K 1 (.slice A cs.length cp) cs.length (cs.map (Value.int .u32)))(hcn:cs.length≤65536)
  (hs2:SlAt w K 3 (.slice A2 segs.length cp2) segs.length (segs.flatMap SegM.cells)) (hok:∀x∈segs,(-1099511627700≤x.addr∧x.addr≤1099511627700)∧x.docs≤65536) (hn:segs.length≤65536):
  Z 57 #[.agg #[.slice A cs.length cp,.slice A2 segs.length cp2,I wt,J wv,I u0,I u1,I u2,I u3,I u4,I u5],J id] w fun e w'=>
   e= .returned (.tuple #[I (rplaceL cs id segs 0).1,I (rplaceL cs id segs 0).2.1,.bool (rplaceL cs id segs 0).2.2])∧Keeps (· <w.heap.size) w w':=by
 obtain⟨t,ht⟩:∃t,t=rplaceL cs id segs 0:=⟨_,rfl⟩;rw[←ht];have hfind:=fun W (hk:Keeps (· <w.heap.size) w W) b n (h1:Small b) (h2:n≤65536)=>ref11_find cs b n id A cp W K (fun b hb9=>Nat.lt_of_lt_of_le (hb b hb9) hk.size) (hsl.keep hk hb) hcn h1 h2;have Hsl:=hid hsl;have Hs2:=hid hs2;have Hok:=hid hok;have Hb:=hid hb;have Ht:=hid ht;have Hfind:=hid hfind;clear hsl hs2 hok hb ht hfind
 refine calls_hide fun R' hR'=>?_
 go_enter Tryz.func57,Tryz.ntmps57
 go_wp2_with fail
 go_loopw[7,15] (fun _ iv wx=>∃(i:Nat),iv=I (i:Int)∧i≤segs.length∧Hid (t=rplaceL cs id (segs.drop i) i)∧Hid (Keeps (· <w.heap.size) w wx)∧Hid (Blk wx w.heap.size [.slice A cs.length cp,.slice A2 segs.length cp2,I wt,J wv,I u0,I u1,I u2,I u3,I u4,I u5])) (fun _ iv _=>segs.length-(intOf iv).toNat)
 case atStart=>exact⟨0,rfl,Nat.zero_le _,Ht,hid ((Keeps.refl _ _).alloc (fun b hb=>hb) _),hid (Blk.new w _ _)⟩
 case round=>
  obtain⟨i,rfl,hile,HT,HK,HS⟩:=hrel
  by_cases hil:i<segs.length
  ·have hilI:(i:Int)<(segs.length:Int):=by omega
   obtain⟨x,hx⟩:∃x,segs[i]? =some x:=⟨_,List.getElem?_eq_getElem hil⟩;obtain⟨b0,o0,rfl,hkb,g1⟩:=SlAt.rec (SegM.len3 segs) Hs2.out i x hx;obtain⟨⟨x0,x1⟩,x2⟩:=Hok.out x (List.mem_of_getElem? hx);have hh0:=Hb.out _ hkb;have hst:t=if 0≤(tfindL cs x.base id x.docs 0).1 then((i:Int),(tfindL cs x.base id x.docs 0).1,true)else rplaceL cs id (segs.drop (i+1)) (i+1):=by
    obtain⟨h9,h8⟩:=List.getElem?_eq_some_iff.1 hx;rw[HT.out,List.drop_eq_getElem_cons h9,h8];rfl
   have hbs:=Small.base ⟨x0,x1⟩;have zz50:=PLift.up @c308;exact c307
  ·obtain rfl:i=segs.length:=by omega
   have hilI:¬(segs.length:Int)<(segs.length:Int):=by omega
   have hres:t=(0,0,false):=by rw[HT.out,List.drop_length];rfl
   have Hres:=hid hres;clear hres
   go_wp2_with fail
   exact hR'.out _ _ ⟨by first|(rw[Hres.out];done)|(rw[Hres.out];rfl),HK.out⟩
theorem own_any {w:World}{B E sz n:Nat}{v:Value}{xs:List Value}(h:w.ownsRow B E sz v n xs):w.ownsRow 0 E sz v n xs:=
 ⟨h.1,h.2.imp (fun h=>h) (fun⟨a,b,c,d⟩=>⟨a,b,c,d.1,Nat.zero_le _,d.2.2⟩)⟩
theorem storesC_snoc (a:Nat):∀(L:List Int) (cs:List Int) (k:Nat) (c:Int),storesC cs a (L++[c]) k=(storesC cs a L k).set (a+2+(k+L.length)) c
 | [],cs,k,c=>rfl
 |d::L,cs,k,c=>by
  show storesC (cs.set (a+2+k) d) a (L++[c]) (k+1)=(storesC (cs.set (a+2+k) d) a L (k+1)).set _ _;rw[storesC_snoc a L _ (k+1) c,List.length_cons,show k+1+L.length=k+(L.length+1) by omega]
theorem storesC_take {a:Nat}{L:List Int}{cs:List Int}{k:Nat}{c:Int}(h:L[k]? =some c):storesC cs a (L.take (k+1)) 0=(storesC cs a (L.take k) 0).set (a+2+k) c:=by
 have hk:=(List.getElem?_eq_some_iff.1 h).1;rw[List.take_add_one,h,Option.toList_some,storesC_snoc,List.length_take,Nat.min_eq_left (by omega),Nat.zero_add]
set_option maxRecDepth 100000 in
set_option maxHeartbeats 4000000 in
theorem ref10_put (cs:List Int)(p:PlanM)(u:V6)(s sl a:Nat)(key:ByteArray)(A:Option Addr)(cp:Nat)(w:World)(K:Nat→Prop)(hb:∀b,K b→b<w.heap.size)(hsl:SlAt w K 1 (.slice A cs.length cp) cs.length (cs.map (Value.int .u32)))(hn:cs.length≤65536)
  (ht:key.size≤1000) (h0:0≤u.a4) (h2:u.a4+(2+(((key.size+3)/4:Nat):Int))≤p.size.a4) (h3:p.size.a4≤65536) (hpb:p.base.a4+u.a4=(a:Int)) (hb0:0≤p.base.a4∧p.base.a4≤65536) (ha:a+2+(key.size+3)/4≤cs.length) (hs:s+sl<cs.length):
  Z 93 #[.slice A cs.length cp,p.val,u.val,I (s:Int),I (sl:Int),.string key] w fun e w'=>∃nb,
   e= .returned (.tuple #[.slice (some ⟨nb,0,none⟩) cs.length cs.length,I (a:Int),V6.val { u with a4:=u.a4+(2+(((key.size+3)/4:Nat):Int)) },I 0])∧w.heap.size≤nb∧
    Blk w' nb ((putC cs a (s+sl) key.size (packC (bsL key))).map (Value.int .u32))∧Keeps (· <w.heap.size) w w':=by
 have hpl:(packC (bsL key)).length=(key.size+3)/4:=by rw[packC_len,bsL_len]
 obtain⟨C,hC⟩:∃C,C=packC (bsL key):=⟨_,rfl⟩;rw[←hC]at hpl;have hcl:=fun W=>ref7_cells key (by omega) W
 rw[←hC]at hcl;rw[←hpl]at h2 ha ⊢;rw[←hC];have htk:=fun W=>rtake4 p u (2+(C.length:Int)) W (by omega) h0 h2 h3 hb0
 rw[hpb]at htk;have hcl250:C.length≤251:=by omega
 have hrg:=packC_range (bsL_range key);rw[←hC]at hrg;obtain⟨n,hks⟩:∃n,n=key.size:=⟨_,rfl⟩;rw[←hks]at ht ⊢;have hks2:(key.size:Int)=(n:Int):=by rw[hks]
 clear hC hpl hpb hks;obtain⟨u0,u1,u2,u3,u4,u5⟩:=u;obtain⟨hb00,hb01⟩:=hb0;dsimp only at*;have h2n:u4+(2+(C.length:Int))≤p.size.a4:=h2;have hw1:IntKind.i64.wrap (2+(C.length:Int))=2+(C.length:Int):=IntWalk.i64_in _ (by omega)
 have hn0:0<cs.length:=by omega
 have Hcl:=hid hcl;have Htk:=hid htk;have Hsl:=hid hsl;have Hb:=hid hb;have Hrg:=hid hrg;have H2:=hid h2;have H2n:=hid h2n;clear hcl htk hsl hb hrg h2 h2n;unfold PlanM.val V6.val at*;dsimp only at*;refine calls_hide fun R' hR'=>?_
 go_enter Tryz.func93,Tryz.ntmps93
 go_wp2_with fail
 refine calls_gen (fun W=>Blk W w.heap.size p.flat∧Blk W (w.heap.size+1) [I u0,I u1,I u2,I u3,I u4,I u5]∧Blk W (w.heap.size+1+1) [I 0,I 0,I 0,I 0,I 0,I 0]∧Keeps (· <w.heap.size) w W) ⟨?_,?_,?_,?_⟩ (fun W0 HW=>?_)
 ·exact((Blk.new w p.flat 42).alloc _).alloc _
 ·exact bA
 ·exact bA
 ·exact kA
 obtain⟨hA0,hA1,hA2,hkA⟩:=HW;generalize hBB:w.heap.size=B at*;refine(Hcl.out W0).mono ?_;rintro e w1 ⟨v,rfl,hv1,hk1⟩;obtain⟨CA,cc,rfl⟩:=ownB_form hv1;have hv1:=own_any hv1;have hB0:=hA0.keep hk1 hA0.lt;have hB1:=hA1.keep hk1 hA1.lt;have hB2:=hA2.keep hk1 hA2.lt;have hkB:Keeps (· <B) w w1:=hkA.trans (hk1.mono fun b hb=>by have:=hkA.size;omega)
 clear hA0 hA1 hA2 hkA hk1 Hcl;have hpc:=hB0;unfold PlanM.flat at hpc;obtain⟨g0,g1,g2,g3,g4,g5,g6,g7,g8,g9,g10,g11,g12,g13,g14⟩:=hpc.c15;obtain⟨y0,y1,y2,y3,y4,y5⟩:=hB1.c6;clear hpc;have HB0:=hid hB0;have HB1:=hid hB1;have HB2:=hid hB2;have HkB:=hid hkB;have Hv1:=hid hv1;have HBB:=hid hBB;clear hB0 hB1 hB2 hkB hv1 hBB
 go_wp2_with fail
 refine(Htk.out w1).mono ?_;rintro e w2 ⟨rfl,hk2⟩;have hC2:=HB2.out.keep hk2 HB2.out.lt;have hv2:=own_of_keep Hv1.out hk2 fun b hb=>own_ne Hv1.out b hb;have hkC:Keeps (· <B) w w2:=HkB.out.trans (hk2.mono fun b hb=>by have:=HB2.out.lt;omega)
 clear g0 g1 g2 g3 g4 g5 g6 g7 g8 g9 g10 g11 g12 g13 g14 y0 y1 y2 y3 y4 y5 HB0 HB1 HB2 HkB Hv1 hk2 Htk;have HC2:=hid hC2;have Hv2:=hid hv2;have HkC:=hid hkC;clear hC2 hv2 hkC
 go_wp2_with fail
 refine calls_gen (fun W=>Blk W w2.heap.size [I u0,I u1,I u2,I u3,I (u4+(2+(C.length:Int))),I u5]∧Blk W (B+1+1) [I 0,I 0,I 0,I 0,I 0,I 0]∧W.ownsRow 0 32 1 (.slice CA C.length cc) C.length (C.map (Value.int .u32))∧Keeps (· <B) w W∧w2.heap.size<W.heap.size)
  ⟨Blk.new w2 _ _,HC2.out.alloc _,own_of_keep Hv2.out ((Keeps.refl (· <w2.heap.size) w2).alloc (fun b hb=>hb) _) (fun b hb=>own_ne Hv2.out b hb),HkC.out.trans (((Keeps.refl (· <w2.heap.size) w2).alloc (fun b hb=>hb) _).mono fun b hb=>by have:=HC2.out.lt;omega),by simp⟩ (fun w3 HW=>?_)
 obtain⟨hU3,hC3,hv3,hk3,hz3⟩:=HW;have hBU:B+1+1<w2.heap.size:=HC2.out.lt;generalize hUB:w2.heap.size=UB at*;clear HC2 Hv2 HkC;refine(ref01_copy cs A cp w3 K (fun b hb=>by have h9:b<B:=Hb.out b hb;omega) (Hsl.out.keep hk3 (fun b hb=>Hb.out b hb)) hn0 hn).mono ?_
 rintro e w4 ⟨rfl,hN4,hk4⟩;have hU4:=hU3.keep hk4 hU3.lt;have hC4:=hC3.keep hk4 hC3.lt;have hv4:=own_of_keep hv3 hk4 fun b hb=>own_ne hv3 b hb;have hK4:Keeps (· <B) w w4:=hk3.trans (hk4.mono fun b hb=>by omega)
 have hvn:∀b,(Value.slice CA C.length cc).ownBlock=some b→b<w3.heap.size:=fun b hb=>own_ne hv3 b hb;clear hU3 hC3 hv3 hk3 hk4;generalize hNB:w3.heap.size=NB at*;have hl0:(cs.map (Value.int .u32)).length=cs.length:=List.length_map ..;have hw2:IntKind.i64.wrap ((a:Int)+1)=((a+1:Nat):Int):=by rw[IntWalk.i64_in _ (by omega)];omega
 have hw3:IntKind.u32.wrap (n:Int)=(n:Int):=IntWalk.u32_in _ (by omega)
 have zz163:=PLift.up @c764;exact c763
end Go.Proofs.YtogdknnkhkjmcaaGreatDoor
