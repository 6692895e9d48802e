/- Lemmas on the programs that the statement reaches. -/
import Derived.Test.YtogdknnkhkjmcaaGreatDoorChecked
import Derived.WalkKit
import Derived.WalkSpells
import Derived.WalkLawsBesides
import Derived.Deep.Draws
import Derived.Handy
import Derived.Deep.MidRow
import Derived.Outline
import Derived.Deep.CutBlock
import Derived.Lib.LaidTab
import Derived.ProofKit
import Derived.OpenShut
import Derived.Deep.DeepHandedRow
import Derived.StillTailTactics
import Derived.Deep.CutRange
import Derived.Maps.RangeWalk
import Derived.Maps.OwnOps
import Derived.Maps.Ext
import Derived.Deep.DeepMust
import Derived.BigQuiet
import Derived.Laws.CopyOwn
import Derived.Deep.Slices
import Derived.Deep.Fields
import Derived.ChangeSame
import Derived.SizedLaws
import Derived.Maps.AppendAt
import Derived.IntWalk
import Derived.Laws.IdiomStrings
import Derived.RowKit
import Derived.Deep.QuietTactic
import Derived.RegionTactic
import Derived.ChangeAlike
import Derived.BigRegion
import Derived.Deep.RegionHeld3
import Derived.Deep.DrawnRows
import Derived.StillTail
import Derived.Deep.RegionHeldLaw
import Derived.Deep.AppendLies
import Derived.Lib.DecodeN
import Derived.OrdersHeld
import Derived.Deep.OwnRows
import Derived.Lib.OthersKept
import Derived.Laws.RangeAny
import Derived.Lib.AppendStr
import Derived.Laws.Runes
namespace Go.Proofs.YtogdknnkhkjmcaaGreatDoor
open Go.RowKit
set_option linter.all false
set_option maxRecDepth 1000000
variable {p:Prop}
theorem c215 (h:p:=by
 refine bodyPost_ret (v:= .agg #[I o.a0,I o.a1,I o.a2,I o.a3,I o.a4,I o.a5]) ?_ rfl ?_
 ·simp[results,Tryz.results78,go_sem,d0,d1,d2,d3,d4,d5]
 ·refine hR'.out _ _ ⟨?_,g2⟩;rw[←Hfin.out];rfl):p:=h
theorem c216 (h:p:=by
 refine bodyPost_ret (v:= .agg #[I o.a0,I o.a1,I o.a2,I o.a3,I o.a4,I o.a5]) ?_ rfl ?_
 ·simp[results,Tryz.results63,go_sem,d0,d1,d2,d3,d4,d5]
 ·refine hR'.out _ _ ⟨?_,g2⟩;rw[←Hfin.out];rfl):p:=h
theorem c217 (h:p:=by
 refine calls_hide fun R' hR'=>?_
 go_enter Tryz.func30,Tryz.ntmps30
 go_wp2_with fail
 refine calls_gen (fun W0=>Blk W0 w.heap.size [I docs,I terms,I q0,I q1,I q2,I q3,I book,I room,kk,bb]∧Blk W0 (w.heap.size+1) wr0∧Keeps (· <w.heap.size) w W0) ⟨?_,?_,?_⟩ (fun W0 HW=>?_)
 ·exact bA
 ·unfold wr0;exact bA
 ·exact kA
 obtain⟨hA0,hA1,hkA⟩:=HW;generalize hBB:w.heap.size=B at*;have h0B:0<B:=by have:=HT.out.2.2.2.2;omega
 refine(Hlay.out W0 (HT.out.keep (K:=(· <B)) hkA h0B)).mono ?_;rintro e w2 ⟨rfl,hk2⟩;have hB0:=hA0.keep hk2 hA0.lt;have hB1:=hA1.keep hk2 hA1.lt;have hsz:=hkA.size;have hkw:Keeps (· <B) w w2:=hkA.trans (hk2.mono fun b hb=>by omega)
 clear hA0 hA1 hkA hk2 hsz;have hl1:B+1<w2.heap.size:=hB1.lt;unfold PlanM.val;have HB0:=hid hB0;have HB1:=hid hB1;have Hkw:=hid hkw;have HBB:=hid hBB;clear hB0 hB1 hkw hBB;exact zz24.down):p:=h
theorem c218 (h:p:=by
 clear h0B
 go_upto_region 3 with fail
 refine wp_gen (fun W3=>Blk W3 B [I docs,I terms,I q0,I q1,I q2,I q3,I book,I room,kk,bb]∧Blk W3 (B+1) wr0∧Blk W3 w2.heap.size p.flat∧Keeps (· <B) w W3∧W3.heap.size=w2.heap.size+1) ⟨HB0.out.alloc _,HB1.out.alloc _,Blk.new w2 p.flat _,Hkw.out.trans (((Keeps.refl (· <w2.heap.size) w2).alloc (fun b hb=>hb) _).mono fun b hb=>by omega),World.size_alloc _ _⟩ (fun w3 HW=>?_)
 clear HB0 HB1 Hkw;obtain⟨hB0,hB1,hP,hkw,hz3⟩:=HW;generalize hPB:w2.heap.size=PB at*;have hz:=hB1;unfold wr0 at hz;obtain⟨y0,y1,y2,y3,y4,y5,y6,y7,y8⟩:=hz.c9;have f:=hz.free;clear hz;have HB0:=hid hB0;have HB1:=hid hB1;have HP:=hid hP;have Hkw:=hid hkw;clear hB0 hB1 hP hkw
 go_wp2_with fail
 have hE:=blk_out9 HB1.out rfl (.slice none 0 0) (I 0) (J 0) (I 0) (I 0) (I 0) (I 0) (I 0) (I 0);have hkk:=keeps_out9 (b:=B+1) Hkw.out (fun h=>by first|omega|exact absurd h.1 (by omega)) (.slice none 0 0) (I 0) (J 0) (I 0) (I 0) (I 0) (I 0) (I 0) (I 0)
 generalize (((((((((w3.setCell ⟨B+1,0,none⟩ (.slice none 0 0)).setCell ⟨B+1,1,none⟩ (I 0)).setCell ⟨B+1,2,none⟩ (J 0)).setCell ⟨B+1,3,none⟩ (I 0)).setCell ⟨B+1,4,none⟩ (I 0)).setCell ⟨B+1,5,none⟩ (I 0)).setCell ⟨B+1,6,none⟩ (I 0)).setCell ⟨B+1,7,none⟩ (I 0)).setCell ⟨B+1,8,none⟩ (I 0))=WZ at*;obtain⟨d0,d1,d2,d3,d4,d5,d6,d7,d8⟩:=hE.c9;refine bodyPost_ret (v:= .tuple #[.agg #[.slice none 0 0,I 0,J 0,I 0,I 0,I 0,I 0,I 0,I 0],I 1]) ?_ rfl ?_
 ·simp[results,Tryz.results30,go_sem,d0,d1,d2,d3,d4,d5,d6,d7,d8]
 ·exact c92):p:=h
theorem c219 (h:p:=by
 go_upto_region 6 with fail
 refine wp_gen (fun W3=>Blk W3 B [I docs,I terms,I q0,I q1,I q2,I q3,I book,I room,kk,bb]∧Blk W3 (B+1) wr0∧Blk W3 w2.heap.size p.flat∧Keeps (· <B) w W3∧W3.heap.size=w2.heap.size+1) ⟨HB0.out.alloc _,HB1.out.alloc _,Blk.new w2 p.flat _,Hkw.out.trans (((Keeps.refl (· <w2.heap.size) w2).alloc (fun b hb=>hb) _).mono fun b hb=>by omega),World.size_alloc _ _⟩ (fun w3 HW=>?_)
 clear HB0 HB1 Hkw;obtain⟨hB0,hB1,hP,hkw,hz3⟩:=HW;generalize hPB:w2.heap.size=PB at*;have hpc:=hP;unfold PlanM.flat at hpc;obtain⟨g0,g1,g2,g3,g4,g5,g6,g7,g8,g9,g10,g11,g12,g13,g14⟩:=hpc.c15;clear hpc;have q2:=fun q:KC (fun _=>True) w3=>q.cell trivial g12;have HLQ:=hid (show∀q:KC (fun _=>True) w3,Z 42 #[mp] q.w fun e w'=>e= .returned (I (n:Nat))∧∃q':KC (fun _=>True) w3,w'=q'.w from fun q=>q.calls (K:=fun _=>True) ((hlen q.w (hkw.trans (q.k.mono fun _ _=>trivial))).mono fun e w' h=>⟨h.1,by rw[h.2];exact Keeps.refl _ _⟩))
 clear g0 g1 g2 g3 g4 g5 g6 g7 g8 g9 g10 g11 g12 g13 g14;refine wp_region_kc (fun _=>True) (by kernel_rfl) (by kernel_rfl) ?_
 repeat(go_big_quiet_step (exact HLQ.out _))
 refine wpQuiet_nil ?_;rintro w4 ⟨⟨_,hk4⟩,rfl⟩;have hC1:=hB1.keep hk4 trivial;have hQ:=hP.keep hk4 trivial;have hk5:Keeps (· <B) w w4:=hkw.trans (hk4.mono fun _ _=>trivial);clear HLQ q2 hB0 hB1 hP;have hneb:((n:Int) !=p.cells)=false:=by simpa using hne
 have hg5:=(hpf.g 5 (by decide)).2
 have hs5:p.size.a5≤65536:=hg5;clear hne hg5;have hpc:=hQ;unfold PlanM.flat at hpc;obtain⟨g0,g1,g2,g3,g4,g5,g6,g7,g8,g9,g10,g11,g12,g13,g14⟩:=hpc.c15;clear hpc;have hwl:IntKind.i64.wrap (p.live+2)=p.live+2:=IntWalk.i64_in _ (by omega)
 have hz:=hC1;unfold wr0 at hz;obtain⟨y0,y1,y2,y3,y4,y5,y6,y7,y8⟩:=hz.c9;clear hz;have l1:B+1<w4.heap.size:=hC1.lt;have l2:PB<w4.heap.size:=hQ.lt;have HC1:=hid hC1;have HQ:=hid hQ;have Hk5:=hid hk5;have Hkw:=hid hkw;clear hC1 hQ hk5 hkw
 go_wp2_with fail
 refine calls_gen (fun W3=>Blk W3 (B+1) wr0∧Blk W3 PB p.flat∧Blk W3 w4.heap.size wr0∧Keeps (· <B) w W3) ⟨HC1.out.alloc _,HQ.out.alloc _,Blk.new w4 wr0 _,Hk5.out.trans (((Keeps.refl (· <w4.heap.size) w4).alloc (fun b hb=>hb) _).mono fun b hb=>by omega)⟩ (fun w5 HW=>?_)
 clear HC1 HQ Hk5 g0 g1 g2 g3 g4 g5 g6 g7 g8 g9 g10 g11 g12 g13 g14 y0 y1 y2 y3 y4 y5 y6 y7 y8;obtain⟨hC1,hQ,hW,hk6⟩:=HW;generalize hWB:w4.heap.size=WB at*;obtain⟨hlv1,hlv2⟩:=hlv;obtain⟨hb50,hb51⟩:=hb5;have ht1:=take_room p ⟨0,0,0,0,0,0⟩ p.live w5 hlv1 (Int.le_refl _) (by dsimp only;omega) hs5 ⟨hb50,hb51⟩
 unfold V6.val PlanM.val at ht1;dsimp only at ht1;simp only[Int.zero_add,Int.add_zero]at ht1;refine ht1.mono ?_;rintro e w6 ⟨rfl,hk7⟩;have hD1:=hC1.keep hk7 hC1.lt;have hR:=hQ.keep hk7 hQ.lt;have hV:=hW.keep hk7 hW.lt;have hk8:Keeps (· <B) w w6:=hk6.trans (hk7.mono fun b hb=>by have:=hC1.lt;omega)
 clear hC1 hQ hW hk6 hk7 ht1;have hpc:=hR;unfold PlanM.flat at hpc;obtain⟨g0,g1,g2,g3,g4,g5,g6,g7,g8,g9,g10,g11,g12,g13,g14⟩:=hpc.c15;clear hpc;have l3:PB<w6.heap.size:=hR.lt;clear g0 g1 g2 g3 g4 g5 g6 g7 g8 g9 g10 g11 g12 g13 g14 l3;have HD1:=hid hD1;have HR:=hid hR;have HV:=hid hV;have Hk8:=hid hk8;clear hD1 hR hV hk8
 go_upto_region 10 with fail
 refine wp_gen (fun W3=>Blk W3 (B+1) wr0∧Blk W3 PB p.flat∧Blk W3 WB wr0∧Blk W3 w6.heap.size [I 0,I 0,I 0,I 0,I 0,I p.live]∧Keeps (· <B) w W3∧w6.heap.size<W3.heap.size) ⟨HD1.out.alloc _,HR.out.alloc _,HV.out.alloc _,Blk.new w6 _ _,Hk8.out.trans (((Keeps.refl (· <w6.heap.size) w6).alloc (fun b hb=>hb) _).mono fun b hb=>by have:=HD1.out.lt;omega),by simp⟩ (fun w7 HW=>?_)
 have hVl:=HV.out.lt;clear HD1 HR HV Hk8;obtain⟨hD1,hR,hV,hU,hk9,hz7⟩:=HW;generalize hUB:w6.heap.size=UB at*;have ht2:=take_room p ⟨0,0,0,0,0,p.live⟩ 2 w7 (by decide) (by dsimp only;omega) (by dsimp only;omega) hs5 ⟨hb50,hb51⟩
 unfold V6.val PlanM.val at ht2;dsimp only at ht2;have hpc:=hR;unfold PlanM.flat at hpc;obtain⟨g0,g1,g2,g3,g4,g5,g6,g7,g8,g9,g10,g11,g12,g13,g14⟩:=hpc.c15;clear hpc;obtain⟨n0,n1,n2,n3,n4,n5⟩:=hU.c6;have HD1:=hid hD1;have HR:=hid hR;have HV:=hid hV;have HU:=hid hU;have Hk9:=hid hk9;clear hD1 hR hV hU hk9
 go_wp2_with fail
 refine ht2.mono ?_;rintro e w8 ⟨rfl,hk10⟩;clear g0 g1 g2 g3 g4 g5 g6 g7 g8 g9 g10 g11 g12 g13 g14 n0 n1 n2 n3 n4 n5;have hE1:=HD1.out.keep hk10 HD1.out.lt;have hX:=HV.out.keep hk10 HV.out.lt;have hY:=HU.out.keep hk10 HU.out.lt;have hk11:Keeps (· <B) w w8:=Hk9.out.trans (hk10.mono fun b hb=>by have:=HD1.out.lt;omega)
 clear HD1 HR HV HU Hk9 hk10 ht2;obtain⟨n0,n1,n2,n3,n4,n5⟩:=hY.c6;have f0:=hY.free 0;have f1:=hY.free 1;have f2:=hY.free 2;have f3:=hY.free 3;have f4:=hY.free 4;have f5:=hY.free 5;have hU9:Blk ((((((w8.setCell ⟨UB,0,none⟩ (I 0)).setCell ⟨UB,1,none⟩ (I 0)).setCell ⟨UB,2,none⟩ (I 0)).setCell ⟨UB,3,none⟩ (I 0)).setCell ⟨UB,4,none⟩ (I 0)).setCell ⟨UB,5,none⟩ (I (p.live+2))) UB [I 0,I 0,I 0,I 0,I 0,I (p.live+2)]:=hY.set6 _ _ _ _ _ _ rfl
 have hne1:WB≠UB:=by omega
 have hne2:B+1≠UB:=by omega
 have hX9:Blk ((((((w8.setCell ⟨UB,0,none⟩ (I 0)).setCell ⟨UB,1,none⟩ (I 0)).setCell ⟨UB,2,none⟩ (I 0)).setCell ⟨UB,3,none⟩ (I 0)).setCell ⟨UB,4,none⟩ (I 0)).setCell ⟨UB,5,none⟩ (I (p.live+2))) WB wr0:=hX.set6_ne _ _ _ _ _ _ hne1;have hE9:Blk ((((((w8.setCell ⟨UB,0,none⟩ (I 0)).setCell ⟨UB,1,none⟩ (I 0)).setCell ⟨UB,2,none⟩ (I 0)).setCell ⟨UB,3,none⟩ (I 0)).setCell ⟨UB,4,none⟩ (I 0)).setCell ⟨UB,5,none⟩ (I (p.live+2))) (B+1) wr0:=hE1.set6_ne _ _ _ _ _ _ hne2
 have hk12:Keeps (· <B) w ((((((w8.setCell ⟨UB,0,none⟩ (I 0)).setCell ⟨UB,1,none⟩ (I 0)).setCell ⟨UB,2,none⟩ (I 0)).setCell ⟨UB,3,none⟩ (I 0)).setCell ⟨UB,4,none⟩ (I 0)).setCell ⟨UB,5,none⟩ (I (p.live+2))):=hk11.set6 _ _ _ _ _ _ (by omega)
 clear hE1 hX hY hk11;have HU9:=hid hU9;have HX9:=hid hX9;have HE9:=hid hE9;have Hk12:=hid hk12;clear hU9 hX9 hE9 hk12
 go_upto_region 11 with fail
 clear n0 n1 n2 n3 n4 n5 f0 f1 f2 f3 f4 f5;generalize ((((((w8.setCell ⟨UB,0,none⟩ (I 0)).setCell ⟨UB,1,none⟩ (I 0)).setCell ⟨UB,2,none⟩ (I 0)).setCell ⟨UB,3,none⟩ (I 0)).setCell ⟨UB,4,none⟩ (I 0)).setCell ⟨UB,5,none⟩ (I (p.live+2)))=w9 at*;have hcu:=HU9.out;obtain⟨n0,n1,n2,n3,n4,n5⟩:=hcu.c6;clear hcu;have hxx:=HX9.out;unfold wr0 at hxx;obtain⟨y0,y1,y2,y3,y4,y5,y6,y7,y8⟩:=hxx.c9
 have e0:=hxx.free 0;have e1:=hxx.free 1;have e2:=hxx.free 2;have e3:=hxx.free 3;have e4:=hxx.free 4;have e5:=hxx.free 5;have e6:=hxx.free 6;have e7:=hxx.free 7;have e8:=hxx.free 8;clear hxx;have l4:UB<w9.heap.size:=HU9.out.lt;have l5:WB<w9.heap.size:=HX9.out.lt
 go_upto_region 12 with fail
 have hneE:B+1≠WB:=by omega
 have hKW:¬(fun b=>b<B) WB:=fun h=>by have h:WB<B:=h;omega
 have hXs:=(((((((HX9.out.set 3 (I 0)).set 4 (I 0)).set 5 (I 0)).set 6 (I 0)).set 7 (I 0)).set 8 (I (p.live+2))).set 0 (.slice (some ⟨w9.heap.size,0,none⟩) 1 1));have hEs:=(((((((HE9.out.set_ne (a:=⟨WB,3,none⟩) (I 0) hneE).set_ne (a:=⟨WB,4,none⟩) (I 0) hneE).set_ne (a:=⟨WB,5,none⟩) (I 0) hneE).set_ne (a:=⟨WB,6,none⟩) (I 0) hneE).set_ne (a:=⟨WB,7,none⟩) (I 0) hneE).set_ne (a:=⟨WB,8,none⟩) (I (p.live+2)) hneE).set_ne (a:=⟨WB,0,none⟩) (.slice (some ⟨w9.heap.size,0,none⟩) 1 1) hneE)
 have hks:=(((((((Hk12.out.setCell (p:=⟨WB,3,none⟩) hKW (I 0)).setCell (p:=⟨WB,4,none⟩) hKW (I 0)).setCell (p:=⟨WB,5,none⟩) hKW (I 0)).setCell (p:=⟨WB,6,none⟩) hKW (I 0)).setCell (p:=⟨WB,7,none⟩) hKW (I 0)).setCell (p:=⟨WB,8,none⟩) hKW (I (p.live+2))).setCell (p:=⟨WB,0,none⟩) hKW (.slice (some ⟨w9.heap.size,0,none⟩) 1 1));have hszs:(((((((w9.setCell ⟨WB,3,none⟩ (I 0)).setCell ⟨WB,4,none⟩ (I 0)).setCell ⟨WB,5,none⟩ (I 0)).setCell ⟨WB,6,none⟩ (I 0)).setCell ⟨WB,7,none⟩ (I 0)).setCell ⟨WB,8,none⟩ (I (p.live+2))).setCell ⟨WB,0,none⟩ (.slice (some ⟨w9.heap.size,0,none⟩) 1 1)).heap.size=w9.heap.size:=by simp
 have hXa:=hXs.alloc (.cells #[I p.base.a5,I 0,.bool false] 65);have hEa:=hEs.alloc (.cells #[I p.base.a5,I 0,.bool false] 65);have hGa:Blk ((((((((w9.setCell ⟨WB,3,none⟩ (I 0)).setCell ⟨WB,4,none⟩ (I 0)).setCell ⟨WB,5,none⟩ (I 0)).setCell ⟨WB,6,none⟩ (I 0)).setCell ⟨WB,7,none⟩ (I 0)).setCell ⟨WB,8,none⟩ (I (p.live+2))).setCell ⟨WB,0,none⟩ (.slice (some ⟨w9.heap.size,0,none⟩) 1 1)).alloc (.cells #[I p.base.a5,I 0,.bool false] 65)) w9.heap.size [I p.base.a5,I 0,.bool false]:=Blk.new' _ _ _ hszs.symm
 have hka:=hks.trans (((Keeps.refl (· <(((((((w9.setCell ⟨WB,3,none⟩ (I 0)).setCell ⟨WB,4,none⟩ (I 0)).setCell ⟨WB,5,none⟩ (I 0)).setCell ⟨WB,6,none⟩ (I 0)).setCell ⟨WB,7,none⟩ (I 0)).setCell ⟨WB,8,none⟩ (I (p.live+2))).setCell ⟨WB,0,none⟩ (.slice (some ⟨w9.heap.size,0,none⟩) 1 1)).heap.size) (((((((w9.setCell ⟨WB,3,none⟩ (I 0)).setCell ⟨WB,4,none⟩ (I 0)).setCell ⟨WB,5,none⟩ (I 0)).setCell ⟨WB,6,none⟩ (I 0)).setCell ⟨WB,7,none⟩ (I 0)).setCell ⟨WB,8,none⟩ (I (p.live+2))).setCell ⟨WB,0,none⟩ (.slice (some ⟨w9.heap.size,0,none⟩) 1 1))).alloc (fun b hb=>hb) (.cells #[I p.base.a5,I 0,.bool false] 65)).mono fun b hb=>by rw[hszs];omega)
 clear hXs hEs hks y0 y1 y2 y3 y4 y5 y6 y7 y8 n0 n1 n2 n3 n4 n5 e0 e1 e2 e3 e4 e5 e6 e7 e8 HX9 HE9 Hk12 HU9;generalize (((((((w9.setCell ⟨WB,3,none⟩ (I 0)).setCell ⟨WB,4,none⟩ (I 0)).setCell ⟨WB,5,none⟩ (I 0)).setCell ⟨WB,6,none⟩ (I 0)).setCell ⟨WB,7,none⟩ (I 0)).setCell ⟨WB,8,none⟩ (I (p.live+2))).setCell ⟨WB,0,none⟩ (.slice (some ⟨w9.heap.size,0,none⟩) 1 1)).alloc (.cells #[I p.base.a5,I 0,.bool false] 65)=wa at*
 clear hszs;have hSB:B≤w9.heap.size:=by omega
 generalize w9.heap.size=SB at*;have hM0:=H.out.keep hka hml hcl;have hq0:=HBB.out
 skip
 obtain rfl:=Hmp.out;have hw1:IntKind.i64.wrap (p.base.a5+p.live+1)=p.base.a5+p.live+1:=IntWalk.i64_in _ (by omega)
 have hw2:IntKind.u32.wrap p.base.a5=p.base.a5:=IntWalk.u32_in _ (by omega)
 have hw3:IntKind.u32.wrap (p.base.a5+p.live)=p.base.a5+p.live:=IntWalk.u32_in _ (by omega)
 have HXa:=hid hXa;have HEa:=hid hEa;have HGa:=hid hGa;have Hka:=hid hka;have HM0:=hid hM0;clear hXa hEa hGa hka hM0
 go_wp2_with fail
 refine(mem_storeZ HM0.out (p.base.a5+p.live) 1 ⟨by decide,by decide⟩).mono ?_
 rintro e wb ⟨⟨z19,rfl⟩,hM1,hk1⟩;have hXb:=HXa.out.keep hk1 ⟨by omega,by omega⟩
 have hEb:=HEa.out.keep hk1 ⟨by omega,by omega⟩
 have hGb:=HGa.out.keep hk1 ⟨by omega,by omega⟩
 have hkb:Keeps (fun b=>b<B∧b≠m∧b≠c) w wb:=(Hka.out.mono fun b hb=>hb.1).trans (hk1.mono fun b hb=>hb.2);clear HXa HEa HGa Hka HM0 hk1;have HM1:=hid hM1;have HXb:=hid hXb;have HEb:=hid hEb;have HGb:=hid hGb;have Hkb:=hid hkb;clear hM1 hXb hEb hGb hkb
 go_wp2_with fail
 refine(mem_storeZ HM1.out (p.base.a5+p.live+1) p.base.a5 ⟨by omega,by omega⟩).mono ?_
 rintro e wc ⟨⟨z29,rfl⟩,hM2,hk2⟩;have hXc:=HXb.out.keep hk2 ⟨by omega,by omega⟩
 have hEc:=HEb.out.keep hk2 ⟨by omega,by omega⟩
 have hGc:=HGb.out.keep hk2 ⟨by omega,by omega⟩
 have hkc:=Hkb.out.trans (hk2.mono fun b hb=>hb.2);clear HXb HEb HGb Hkb HM1 hk2;have HM2:=hid hM2;have HXc:=hid hXc;have HEc:=hid hEc;have HGc:=hid hGc;have Hkc:=hid hkc;clear hM2 hXc hEc hGc hkc
 go_wp2_with fail
 refine(mem_storeZ HM2.out 2 (p.base.a5+p.live) ⟨by omega,by omega⟩).mono ?_
 rintro e wd ⟨⟨z39,rfl⟩,hM3,hk3⟩;have hXd:=HXc.out.keep hk3 ⟨by omega,by omega⟩
 have hEd:=HEc.out.keep hk3 ⟨by omega,by omega⟩
 have hGd:=HGc.out.keep hk3 ⟨by omega,by omega⟩
 have hkd:=Hkc.out.trans (hk3.mono fun b hb=>hb.2);clear HXc HEc HGc Hkc HM2 hk3;have hXv:Blk wd WB [.slice (some ⟨SB,0,none⟩) 1 1,I 0,J 0,I 0,I 0,I 0,I 0,I 0,I (p.live+2)]:=hXd;obtain⟨y0,y1,y2,y3,y4,y5,y6,y7,y8⟩:=hXv.c9;have hz:=hEd;unfold wr0 at hz;obtain⟨z0,z1,z2,z3,z4,z5,z6,z7,z8⟩:=hz.c9;have f:=hEd.free;clear hz hXv hXd;have HM3:=hid hM3;have HEd:=hid hEd
 have HGd:=hid hGd;have Hkd:=hid hkd;clear hM3 hEd hGd hkd
 go_upto_region 15 with fail
 iterate 13 (first|go_values|go_skip|go_guarded|go_step|go_upon|go_back)
 go_step
 have hkk:=keeps_out9 (b:=B+1) Hkd.out (fun h=>by have:=h.1;omega) (.slice (some ⟨SB,0,none⟩) 1 1) (I 0) (J 0) (I 0) (I 0) (I 0) (I 0) (I 0) (I (p.live+2))
 have hE:=blk_out9 HEd.out rfl (.slice (some ⟨SB,0,none⟩) 1 1) (I 0) (J 0) (I 0) (I 0) (I 0) (I 0) (I 0) (I (p.live+2));have hkf:=keeps_out9 (K:=(· ≠B+1)) (b:=B+1) (Keeps.refl _ wd) (fun h=>h rfl) (.slice (some ⟨SB,0,none⟩) 1 1) (I 0) (J 0) (I 0) (I 0) (I 0) (I 0) (I 0) (I (p.live+2));generalize (((((((((wd.setCell ⟨B+1,0,none⟩ (.slice (some ⟨SB,0,none⟩) 1 1)).setCell ⟨B+1,1,none⟩ (I 0)).setCell ⟨B+1,2,none⟩ (J 0)).setCell ⟨B+1,3,none⟩ (I 0)).setCell ⟨B+1,4,none⟩ (I 0)).setCell ⟨B+1,5,none⟩ (I 0)).setCell ⟨B+1,6,none⟩ (I 0)).setCell ⟨B+1,7,none⟩ (I 0)).setCell ⟨B+1,8,none⟩ (I (p.live+2)))=WZ at*
 obtain⟨d0,d1,d2,d3,d4,d5,d6,d7,d8⟩:=hE.c9;refine bodyPost_ret (v:= .tuple #[.agg #[.slice (some ⟨SB,0,none⟩) 1 1,I 0,J 0,I 0,I 0,I 0,I 0,I 0,I (p.live+2)],I 0]) ?_ rfl ?_
 ·simp[results,Tryz.results30,go_sem,d0,d1,d2,d3,d4,d5,d6,d7,d8]
 ·exact hR'.out _ _ ⟨SB,hSB,rfl,HGd.out.keep hkf (by show SB≠B+1;omega),HM3.out.keep hkf (by show m≠B+1;omega) (by show c≠B+1;omega),hkk⟩):p:=h
theorem c220 (h:p:=by
 have f1:=hO.free;have hsl:Z 67 #[I ((3:Nat):Int)] wr.drew fun e w'=>e= .returned (I 256)∧w'=wr.drew:=slab_at3 wr.drew;simp only[szK]at hszb hbk;have hb2:0≤o.a3∧o.a3+256*((m:Int)+1)≤10000000:=by have:=hbk;simp only[V6.uK]at this;omega
 have gw:IntKind.i64.wrap (o.a3+256)=o.a3+256:=IntWalk.i64_in _ (by omega)
 have hset:=hO.set 3 (I (o.a3+256));have HS:=hid (show Blk (wr.setCell ⟨B+1+1,3,none⟩ (I (o.a3+256))) (B+1+1) [I o.a0,I o.a1,I o.a2,I (o.a3+256),I o.a4,I o.a5]from hset)
 have zz111:=PLift.up @c559;exact c558):p:=h
theorem c221 (h:p:=by
 refine calls_gen (fun W=>Blk W (B+1+1) [I o.a0,I o.a1,I o.a2,I (o.a3+256),I o.a4,I o.a5]∧Keeps (fun b=>b<w1.heap.size∧b≠B+1+1) w1 W) ⟨?_,?_⟩ (fun W HW=>?_)
 ·exact c49
 ·exact c15
 exact c414):p:=h
theorem c222 (h:p:=by
 refine calls_gen (fun W=>Blk W (B+1+1) [I o.a0,I o.a1,I o.a2,I (o.a3+256),I o.a4,I o.a5]∧Keeps (fun b=>b<w5.heap.size∧b≠B+1+1) w5 W) ⟨?_,?_⟩ (fun W HW=>?_)
 ·exact c49
 ·exact c15
 exact c414):p:=h
theorem c223 (h:p:=by
 have f1:=hO.free;have hsl:Z 67 #[I ((1:Nat):Int)] wr.drew fun e w'=>e= .returned (I 16)∧w'=wr.drew:=slab_at1 wr.drew;simp only[szK]at hszb hbk;have hb2:0≤o.a1∧o.a1+256*((m:Int)+1)≤10000000:=by have:=hbk;simp only[V6.uK]at this;omega
 have gw:IntKind.i64.wrap (o.a1+16)=o.a1+16:=IntWalk.i64_in _ (by omega)
 have hset:=hO.set 1 (I (o.a1+16));have HS:=hid (show Blk (wr.setCell ⟨B+1+1,1,none⟩ (I (o.a1+16))) (B+1+1) [I o.a0,I (o.a1+16),I o.a2,I o.a3,I o.a4,I o.a5]from hset)
 have zz111:=PLift.up @c560;exact c558):p:=h
theorem c224 (h:p:=by
 refine calls_gen (fun W=>Blk W (B+1+1) [I o.a0,I (o.a1+16),I o.a2,I o.a3,I o.a4,I o.a5]∧Keeps (fun b=>b<w1.heap.size∧b≠B+1+1) w1 W) ⟨?_,?_⟩ (fun W HW=>?_)
 ·exact c49
 ·exact c15
 exact c415):p:=h
theorem c225 (h:p:=by
 refine calls_gen (fun W=>Blk W (B+1+1) [I o.a0,I (o.a1+16),I o.a2,I o.a3,I o.a4,I o.a5]∧Keeps (fun b=>b<w5.heap.size∧b≠B+1+1) w5 W) ⟨?_,?_⟩ (fun W HW=>?_)
 ·exact c49
 ·exact c15
 exact c415):p:=h
theorem c226 (h:p:=by
 have f1:=hO.free;have hsl:Z 67 #[I ((2:Nat):Int)] wr.drew fun e w'=>e= .returned (I 64)∧w'=wr.drew:=slab_at2 wr.drew;simp only[szK]at hszb hbk;have hb2:0≤o.a2∧o.a2+256*((m:Int)+1)≤10000000:=by have:=hbk;simp only[V6.uK]at this;omega
 have gw:IntKind.i64.wrap (o.a2+64)=o.a2+64:=IntWalk.i64_in _ (by omega)
 have hset:=hO.set 2 (I (o.a2+64));have HS:=hid (show Blk (wr.setCell ⟨B+1+1,2,none⟩ (I (o.a2+64))) (B+1+1) [I o.a0,I o.a1,I (o.a2+64),I o.a3,I o.a4,I o.a5]from hset)
 have zz111:=PLift.up @c561;exact c558):p:=h
theorem c227 (h:p:=by
 refine calls_gen (fun W=>Blk W (B+1+1) [I o.a0,I o.a1,I (o.a2+64),I o.a3,I o.a4,I o.a5]∧Keeps (fun b=>b<w1.heap.size∧b≠B+1+1) w1 W) ⟨?_,?_⟩ (fun W HW=>?_)
 ·exact c49
 ·exact c15
 exact c416):p:=h
theorem c228 (h:p:=by
 refine calls_gen (fun W=>Blk W (B+1+1) [I o.a0,I o.a1,I (o.a2+64),I o.a3,I o.a4,I o.a5]∧Keeps (fun b=>b<w5.heap.size∧b≠B+1+1) w5 W) ⟨?_,?_⟩ (fun W HW=>?_)
 ·exact c49
 ·exact c15
 exact c416):p:=h
theorem c229 (h:p:=by
 have f1:=hO.free;have hsl:Z 67 #[I ((0:Nat):Int)] wr.drew fun e w'=>e= .returned (I 4)∧w'=wr.drew:=slab_at0 wr.drew;simp only[szK]at hszb hbk;have hb2:0≤o.a0∧o.a0+256*((m:Int)+1)≤10000000:=by have:=hbk;simp only[V6.uK]at this;omega
 have gw:IntKind.i64.wrap (o.a0+4)=o.a0+4:=IntWalk.i64_in _ (by omega)
 have hset:=hO.set 0 (I (o.a0+4));have HS:=hid (show Blk (wr.setCell ⟨B+1+1,0,none⟩ (I (o.a0+4))) (B+1+1) [I (o.a0+4),I o.a1,I o.a2,I o.a3,I o.a4,I o.a5]from hset)
 have zz111:=PLift.up @c562;exact c558):p:=h
theorem c230 (h:p:=by
 refine calls_gen (fun W=>Blk W (B+1+1) [I (o.a0+4),I o.a1,I o.a2,I o.a3,I o.a4,I o.a5]∧Keeps (fun b=>b<w1.heap.size∧b≠B+1+1) w1 W) ⟨?_,?_⟩ (fun W HW=>?_)
 ·exact c49
 ·exact c15
 exact c417):p:=h
theorem c231 (h:p:=by
 refine calls_gen (fun W=>Blk W (B+1+1) [I (o.a0+4),I o.a1,I o.a2,I o.a3,I o.a4,I o.a5]∧Keeps (fun b=>b<w5.heap.size∧b≠B+1+1) w5 W) ⟨?_,?_⟩ (fun W HW=>?_)
 ·exact c49
 ·exact c15
 exact c417):p:=h
theorem c232 (h:p:=by
 have zz108:=PLift.up @c551;exact c549):p:=h
theorem c233 (h:p:=by
 exact c215):p:=h
theorem c234 (h:p:=by
 exact c216):p:=h
theorem c235 (h:p:=by
 have H19:Hid (¬(1632≤r∧r≤1641)):=hid (fun g=>absurd (hb.2 g) (by decide))
 clear hb;have hm:foldM r=r:=by have q0:=H0.out ;have q1:=H1.out ;have q2:=H2.out ;have q3:=H3.out ;have q4:=H4.out ;have q5:=H5.out ;have q6:=H6.out ;have q7:=H7.out ;have q8:=H8.out ;have q9:=H9.out ;have q10:=H10.out ;have q11:=H11.out ;have q12:=H12.out ;have q13:=H13.out ;have q14:=H14.out ;have q15:=H15.out ;have q16:=H16.out ;have q17:=H17.out ;have q18:=H18.out ;have q19:=H19.out ;rw[foldM_ifs] ;omega
 clear H0 H1 H2 H3 H4 H5 H6 H7 H8 H9 H10 H11 H12 H13 H14 H15 H16 H17 H18 H19;exact zz30.down):p:=h
theorem c236 (h:p:=by
 exact c11):p:=h
theorem c237 (h:p:=by
 exact c11):p:=h
theorem c238 (h:p:=by
 change _=some (I (p.size.g6 0))at c0;have c1:=hb1.cell 0;change _=some (I (u.g6 0))at c1;have c2:=hb2.cell 0;change _=some (I (m.g6 0))at c2;obtain⟨x0,x1,x2,x3⟩:=HU.out 0 (by omega)
 have HNX:=hid (show m.g6 0≤p.size.g6 0-u.g6 0→∀j,j<1→m.g6 j≤p.size.g6 j-u.g6 j from fun h j hj=>by
  by_cases e:j<0
  ·exact Hno.out j e
  ·obtain rfl:j=0:=by omega
   exact h)
 have HNO:=hid (show¬m.g6 0≤p.size.g6 0-u.g6 0→fitsP p u m=false from fun h=>fitsP_no HU.out (by omega) h)
 exact zz31.down):p:=h
theorem c239 (h:p:=by
 have hix:(Instr.index 40 (.agg #[I p.size.a0,I p.size.a1,I p.size.a2,I p.size.a3,I p.size.a4,I p.size.a5]) (I 0)).run Tryz.prog wr= .ok (I (p.size.g6 0)) wr:=by kernel_rfl
 exact c396):p:=h
theorem c240 (h:p:=by
 skip
 exact c396):p:=h
theorem c241 (h:p:=by
 change _=some (I (p.size.g6 1))at c0;have c1:=hb1.cell 1;change _=some (I (u.g6 1))at c1;have c2:=hb2.cell 1;change _=some (I (m.g6 1))at c2;obtain⟨x0,x1,x2,x3⟩:=HU.out 1 (by omega)
 have HNX:=hid (show m.g6 1≤p.size.g6 1-u.g6 1→∀j,j<2→m.g6 j≤p.size.g6 j-u.g6 j from fun h j hj=>by
  by_cases e:j<1
  ·exact Hno.out j e
  ·obtain rfl:j=1:=by omega
   exact h)
 have HNO:=hid (show¬m.g6 1≤p.size.g6 1-u.g6 1→fitsP p u m=false from fun h=>fitsP_no HU.out (by omega) h)
 exact zz32.down):p:=h
theorem c242 (h:p:=by
 have hix:(Instr.index 40 (.agg #[I p.size.a0,I p.size.a1,I p.size.a2,I p.size.a3,I p.size.a4,I p.size.a5]) (I 1)).run Tryz.prog wr= .ok (I (p.size.g6 1)) wr:=by kernel_rfl
 exact c397):p:=h
theorem c243 (h:p:=by
 skip
 exact c397):p:=h
theorem c244 (h:p:=by
 change _=some (I (p.size.g6 2))at c0;have c1:=hb1.cell 2;change _=some (I (u.g6 2))at c1;have c2:=hb2.cell 2;change _=some (I (m.g6 2))at c2;obtain⟨x0,x1,x2,x3⟩:=HU.out 2 (by omega)
 have HNX:=hid (show m.g6 2≤p.size.g6 2-u.g6 2→∀j,j<3→m.g6 j≤p.size.g6 j-u.g6 j from fun h j hj=>by
  by_cases e:j<2
  ·exact Hno.out j e
  ·obtain rfl:j=2:=by omega
   exact h)
 have HNO:=hid (show¬m.g6 2≤p.size.g6 2-u.g6 2→fitsP p u m=false from fun h=>fitsP_no HU.out (by omega) h)
 exact zz33.down):p:=h
theorem c245 (h:p:=by
 have hix:(Instr.index 40 (.agg #[I p.size.a0,I p.size.a1,I p.size.a2,I p.size.a3,I p.size.a4,I p.size.a5]) (I 2)).run Tryz.prog wr= .ok (I (p.size.g6 2)) wr:=by kernel_rfl
 exact c398):p:=h
theorem c246 (h:p:=by
 skip
 exact c398):p:=h
theorem c247 (h:p:=by
 change _=some (I (p.size.g6 3))at c0;have c1:=hb1.cell 3;change _=some (I (u.g6 3))at c1;have c2:=hb2.cell 3;change _=some (I (m.g6 3))at c2;obtain⟨x0,x1,x2,x3⟩:=HU.out 3 (by omega)
 have HNX:=hid (show m.g6 3≤p.size.g6 3-u.g6 3→∀j,j<4→m.g6 j≤p.size.g6 j-u.g6 j from fun h j hj=>by
  by_cases e:j<3
  ·exact Hno.out j e
  ·obtain rfl:j=3:=by omega
   exact h)
 have HNO:=hid (show¬m.g6 3≤p.size.g6 3-u.g6 3→fitsP p u m=false from fun h=>fitsP_no HU.out (by omega) h)
 exact zz34.down):p:=h
theorem c248 (h:p:=by
 have hix:(Instr.index 40 (.agg #[I p.size.a0,I p.size.a1,I p.size.a2,I p.size.a3,I p.size.a4,I p.size.a5]) (I 3)).run Tryz.prog wr= .ok (I (p.size.g6 3)) wr:=by kernel_rfl
 exact c399):p:=h
theorem c249 (h:p:=by
 skip
 exact c399):p:=h
theorem c250 (h:p:=by
 change _=some (I (p.size.g6 4))at c0;have c1:=hb1.cell 4;change _=some (I (u.g6 4))at c1;have c2:=hb2.cell 4;change _=some (I (m.g6 4))at c2;obtain⟨x0,x1,x2,x3⟩:=HU.out 4 (by omega)
 have HNX:=hid (show m.g6 4≤p.size.g6 4-u.g6 4→∀j,j<5→m.g6 j≤p.size.g6 j-u.g6 j from fun h j hj=>by
  by_cases e:j<4
  ·exact Hno.out j e
  ·obtain rfl:j=4:=by omega
   exact h)
 have HNO:=hid (show¬m.g6 4≤p.size.g6 4-u.g6 4→fitsP p u m=false from fun h=>fitsP_no HU.out (by omega) h)
 exact zz35.down):p:=h
theorem c251 (h:p:=by
 have hix:(Instr.index 40 (.agg #[I p.size.a0,I p.size.a1,I p.size.a2,I p.size.a3,I p.size.a4,I p.size.a5]) (I 4)).run Tryz.prog wr= .ok (I (p.size.g6 4)) wr:=by kernel_rfl
 exact c400):p:=h
theorem c252 (h:p:=by
 skip
 exact c400):p:=h
theorem c253 (h:p:=by
 change _=some (I (p.size.g6 5))at c0;have c1:=hb1.cell 5;change _=some (I (u.g6 5))at c1;have c2:=hb2.cell 5;change _=some (I (m.g6 5))at c2;obtain⟨x0,x1,x2,x3⟩:=HU.out 5 (by omega)
 have HNX:=hid (show m.g6 5≤p.size.g6 5-u.g6 5→∀j,j<6→m.g6 j≤p.size.g6 j-u.g6 j from fun h j hj=>by
  by_cases e:j<5
  ·exact Hno.out j e
  ·obtain rfl:j=5:=by omega
   exact h)
 have HNO:=hid (show¬m.g6 5≤p.size.g6 5-u.g6 5→fitsP p u m=false from fun h=>fitsP_no HU.out (by omega) h)
 exact zz36.down):p:=h
theorem c254 (h:p:=by
 have hix:(Instr.index 40 (.agg #[I p.size.a0,I p.size.a1,I p.size.a2,I p.size.a3,I p.size.a4,I p.size.a5]) (I 5)).run Tryz.prog wr= .ok (I (p.size.g6 5)) wr:=by kernel_rfl
 exact c401):p:=h
theorem c255 (h:p:=by
 skip
 exact c401):p:=h
theorem c256 (h:p:=by
 have kc0:=(HX.out).cell 0;have kc1:=(HX.out).cell 1;have kc2:=(HX.out).cell 2;have kc3:=(HX.out).cell 3;have kc4:=(HX.out).cell 4;have kc5:=(HX.out).cell 5;have kc6:=(HX.out).cell 6;have kc7:=(HX.out).cell 7;have kc8:=(HX.out).cell 8;have kc9:=(HX.out).cell 9;have y0:=(HWS.out).cell 0;have y1:=(HWS.out).cell 1;have y2:=(HWS.out).cell 2;have y3:=(HWS.out).cell 3;have y4:=(HWS.out).cell 4
 have y5:=(HWS.out).cell 5;have y6:=(HWS.out).cell 6;have y7:=(HWS.out).cell 7;have y8:=(HWS.out).cell 8;exact zz37.down):p:=h
theorem c257 (h:p:=by
 simp only[List.getElem?_cons_zero,List.getElem?_cons_succ]at c1 c2 c3 b1 kc0 kc1 kc2 kc3 kc4 kc5 kc6 kc7 kc8 kc9 y0 y1 y2 y3 y4 y5 y6 y7 y8;have HSS:=hid (show∀w':World,Keeps G w w'→(w'.cell? ⟨PW,0,none⟩=some (.pointer (some ⟨WB,0,none⟩))∧w'.cell? ⟨PE,0,none⟩=some (.pointer (some ⟨EB,0,none⟩))∧w'.cell? ⟨XB,0,none⟩=some (.pointer (some ⟨X,0,none⟩))∧w'.cell? ⟨OB,1,none⟩=some (J id)∧(e0_10 w' X (I docs) (I terms) (I q0) (I q1) (I q2) (I q3) (I book) (I room) (kk) (bb) (d0_9 w' WS (.slice SA segs.length sc) (I wt) (J wv) (I u0) (I u1) (I u2) (I u3) (I u4) (I u5))))∧(e0_9 w' WB (l0) (l1) (l2) (l3) (l4) (l5) (l6) (l7) (l8) (w'.cell? ⟨EB,0,none⟩=some (I e0)∧w'.frozen? ⟨WB,0,none⟩=false∧w'.frozen? ⟨WB,1,none⟩=false∧w'.frozen? ⟨WB,2,none⟩=false∧w'.frozen? ⟨WB,3,none⟩=false∧w'.frozen? ⟨WB,4,none⟩=false∧w'.frozen? ⟨WB,5,none⟩=false∧w'.frozen? ⟨WB,6,none⟩=false∧w'.frozen? ⟨WB,7,none⟩=false∧w'.frozen? ⟨WB,8,none⟩=false∧w'.frozen? ⟨EB,0,none⟩=false))from by
  intro w' k;have ePW:=fun i=>World.cell?_of_block (a:=⟨PW,i,none⟩) (k.block PW (HG.out PW (by simp)))
  have ePE:=fun i=>World.cell?_of_block (a:=⟨PE,i,none⟩) (k.block PE (HG.out PE (by simp)))
  have eXB:=fun i=>World.cell?_of_block (a:=⟨XB,i,none⟩) (k.block XB (HG.out XB (by simp)))
  have eOB:=fun i=>World.cell?_of_block (a:=⟨OB,i,none⟩) (k.block OB (HG.out OB (by simp)))
  have eX:=fun i=>World.cell?_of_block (a:=⟨X,i,none⟩) (k.block X (HG.out X (by simp)))
  have eWS:=fun i=>World.cell?_of_block (a:=⟨WS,i,none⟩) (k.block WS (HG.out WS (by simp)))
  have hw9:=HWB.out.keep k (HG.out WB (by simp))
  have he9:=HEB.out.keep k (HG.out EB (by simp))
  have hf:=hw9.free;have hfe:=he9.free 0;obtain⟨z0,z1,z2,z3,z4,z5,z6,z7,z8⟩:=hw9.c9;have z9:=he9.cell 0;simp only[List.getElem?_cons_zero]at z9;exact⟨⟨(ePW 0).trans c1,(ePE 0).trans c2,(eXB 0).trans c3,(eOB 1).trans b1,(eX 0).trans kc0,(eX 1).trans kc1,(eX 2).trans kc2,(eX 3).trans kc3,(eX 4).trans kc4,(eX 5).trans kc5,(eX 6).trans kc6,(eX 7).trans kc7,(eX 8).trans kc8,(eX 9).trans kc9,(eWS 0).trans y0,(eWS 1).trans y1,(eWS 2).trans y2,(eWS 3).trans y3,(eWS 4).trans y4,(eWS 5).trans y5,(eWS 6).trans y6,(eWS 7).trans y7,(eWS 8).trans y8⟩,z0,z1,z2,z3,z4,z5,z6,z7,z8,z9,hf 0,hf 1,hf 2,hf 3,hf 4,hf 5,hf 6,hf 7,hf 8,hfe⟩)
 have HTB:=hid (show∀wa,Keeps (fun _=>True) w wa→Z 35 #[.pointer (some ⟨r,0,none⟩),.agg #[I docs,I terms,I q0,I q1,I q2,I q3,I book,I room,kk,bb],.agg #[.slice SA segs.length sc,I wt,J wv,I u0,I u1,I u2,I u3,I u4,I u5],J id] wa fun e w'=>∃(SA2:Option Addr) (s2:Nat),e= .returned (.tuple #[.agg #[.slice SA2 segs.length s2,I t',J v',I x0,I x1,I x2,I x3,I x4,I x5],I er])∧Hid (SlAt w' (fun b=>Ks b∨(w.heap.size≤b∧b<w'.heap.size∧b≠r∧b≠m∧b≠c)) 3 (.slice SA2 segs.length s2) segs.length (segs.flatMap SegM.cells)∧RM w' G r m c sz∧Keeps G w w')∧(w'.cell? ⟨PW,0,none⟩=some (.pointer (some ⟨WB,0,none⟩))∧w'.cell? ⟨PE,0,none⟩=some (.pointer (some ⟨EB,0,none⟩))∧w'.cell? ⟨XB,0,none⟩=some (.pointer (some ⟨X,0,none⟩))∧w'.cell? ⟨OB,1,none⟩=some (J id)∧(e0_10 w' X (I docs) (I terms) (I q0) (I q1) (I q2) (I q3) (I book) (I room) (kk) (bb) (d0_9 w' WS (.slice SA segs.length sc) (I wt) (J wv) (I u0) (I u1) (I u2) (I u3) (I u4) (I u5))))∧(e0_9 w' WB (l0) (l1) (l2) (l3) (l4) (l5) (l6) (l7) (l8) (w'.cell? ⟨EB,0,none⟩=some (I e0)∧w'.frozen? ⟨WB,0,none⟩=false∧w'.frozen? ⟨WB,1,none⟩=false∧w'.frozen? ⟨WB,2,none⟩=false∧w'.frozen? ⟨WB,3,none⟩=false∧w'.frozen? ⟨WB,4,none⟩=false∧w'.frozen? ⟨WB,5,none⟩=false∧w'.frozen? ⟨WB,6,none⟩=false∧w'.frozen? ⟨WB,7,none⟩=false∧w'.frozen? ⟨WB,8,none⟩=false∧w'.frozen? ⟨EB,0,none⟩=false))from fun wa h1=>by
  have hh:=HR.out.keep _ h1 fun _ _ _=>trivial;have hsz9:=h1.size;have hk:=write_delete hh ⟨docs,terms,q0,q1,q2,q3,book,room,kk,bb⟩ ⟨segs,wt,wv,⟨u0,u1,u2,u3,u4,u5⟩⟩ SA sc id ((HSL.out.mono fun b h=>(HKS.out b h).1).keep h1 fun _ _=>trivial) Hok.out hns Hid9.out Hv.out;rw[Hres.out]at hk;unfold WrM.vals ConfM.list at hk;dsimp only at hk;refine hk.mono ?_;rintro e w' ⟨rfl,g2,g3⟩
  have hk9:Keeps G w w':=(h1.mono fun _ _=>trivial:Keeps G w wa).trans g3
  skip
  exact⟨SA,sc,rfl,⟨(HSL.out.keep hk9 fun b h=>(HKS.out b h).1).mono fun b h=>Or.inl h,g2,hk9⟩,HSS.out _ hk9⟩)
 go_upto_region 1 with fail
 go_region_held3 (fun w'=>w'.cell? ⟨PW,0,none⟩=some (.pointer (some ⟨WB,0,none⟩))∧w'.cell? ⟨PE,0,none⟩=some (.pointer (some ⟨EB,0,none⟩))∧w'.cell? ⟨XB,0,none⟩=some (.pointer (some ⟨X,0,none⟩))∧w'.cell? ⟨OB,1,none⟩=some (J id)∧(e0_10 w' X (I docs) (I terms) (I q0) (I q1) (I q2) (I q3) (I book) (I room) (kk) (bb) (d0_9 w' WS (.slice SA segs.length sc) (I wt) (J wv) (I u0) (I u1) (I u2) (I u3) (I u4) (I u5)))) (go_keep)
  (first|(go_at_call 35;refine(HTB.out _ ?_).mono ?_;(focus((repeat(first|with_reducible exact Keeps.refl _ _|with_reducible refine Keeps.drew ?_|with_reducible refine Keeps.drewN ?_ _|with_reducible refine Keeps.alloc ?_ ?_ _));done));rintro e wb ⟨SA2,s2,rfl,HBW,⟨q0,q1,q2,q3,q4,q5,q6,q7,q8,q9,q10,q11,q12,q13,q14,q15,q16,q17,q18,q19,q20,q21,q22⟩,z0,z1,z2,z3,z4,z5,z6,z7,z8,z9,r0,r1,r2,r3,r4,r5,r6,r7,r8,r9⟩))
 all_goals
  go_wp2_with fail
  go_end0
  have hGW:=HG.out WB (by simp)
  have hGE:=HG.out EB (by simp)
  have hE9:=blk_out9 (HWB.out.keep HBW.out.2.2 hGW) rfl (.slice SA2 segs.length s2) (I t') (J v') (I x0) (I x1) (I x2) (I x3) (I x4) (I x5);have hkn:=keeps_out9 (K:=(· ≠WB)) (b:=WB) (Keeps.refl _ wb) (fun h=>h rfl) (.slice SA2 segs.length s2) (I t') (J v') (I x0) (I x1) (I x2) (I x3) (I x4) (I x5);generalize (((((((((wb.setCell ⟨WB,0,none⟩ (.slice SA2 segs.length s2)).setCell ⟨WB,1,none⟩ (I t')).setCell ⟨WB,2,none⟩ (J v')).setCell ⟨WB,3,none⟩ (I x0)).setCell ⟨WB,4,none⟩ (I x1)).setCell ⟨WB,5,none⟩ (I x2)).setCell ⟨WB,6,none⟩ (I x3)).setCell ⟨WB,7,none⟩ (I x4)).setCell ⟨WB,8,none⟩ (I x5))=W9 at*
  have hke:Keeps (· ≠EB) W9 (W9.setCell ⟨EB,0,none⟩ (I er)):=(Keeps.refl _ _).setCell (p:=⟨EB,0,none⟩) (fun h=>h rfl) _;have hB9:=hE9.keep hke n13;have hEE:=((HEB.out.keep HBW.out.2.2 hGE).keep hkn k13).set 0 (I er);have hkk:Keeps (fun b=>b≠WB∧b≠EB) wb (W9.setCell ⟨EB,0,none⟩ (I er)):=(hkn.mono fun b hb=>hb.1).trans (hke.mono fun b hb=>hb.2);have hs9:=hkk.size;refine hR'.out _ _ ⟨rfl,HBW.out.2.1.keep _ hkk (fun b _ hb=>⟨fun e=>hb (e▸hGW),fun e=>hb (e▸hGE)⟩),(HBW.out.2.2.mono fun b hb=>hb.1).trans (hkk.mono fun b hb=>hb.2),hEE,SA2,s2,hB9,?_⟩
  refine(HBW.out.1.keep hkk fun b hb=>?_).mono fun b hb=>hb.imp (fun h=>h) fun h=>⟨h.1,by omega,h.2.2⟩
  rcases hb with h|h
  ·exact(HKS.out b h).2
  ·have h1:=HWB.out.lt;have h2:=HEB.out.lt;exact⟨by omega,by omega⟩):p:=h
theorem c258 (h:p:=by
 simp only[List.getElem?_cons_zero,List.getElem?_cons_succ]at c1 c2 c3 b1 b2 kc0 kc1 kc2 kc3 kc4 kc5 kc6 kc7 kc8 kc9 y0 y1 y2 y3 y4 y5 y6 y7 y8;have HSS:=hid (show∀w':World,Keeps G w w'→(w'.cell? ⟨PW,0,none⟩=some (.pointer (some ⟨WB,0,none⟩))∧w'.cell? ⟨PE,0,none⟩=some (.pointer (some ⟨EB,0,none⟩))∧w'.cell? ⟨XB,0,none⟩=some (.pointer (some ⟨X,0,none⟩))∧w'.cell? ⟨OB,1,none⟩=some (J id)∧w'.cell? ⟨OB,2,none⟩=some (.slice FA fs.length fc)∧(e0_10 w' X (I docs) (I terms) (I q0) (I q1) (I q2) (I q3) (I book) (I room) (kk) (bb) (d0_9 w' WS (.slice SA segs.length sc) (I wt) (J wv) (I u0) (I u1) (I u2) (I u3) (I u4) (I u5))))∧(e0_9 w' WB (l0) (l1) (l2) (l3) (l4) (l5) (l6) (l7) (l8) (w'.cell? ⟨EB,0,none⟩=some (I e0)∧w'.frozen? ⟨WB,0,none⟩=false∧w'.frozen? ⟨WB,1,none⟩=false∧w'.frozen? ⟨WB,2,none⟩=false∧w'.frozen? ⟨WB,3,none⟩=false∧w'.frozen? ⟨WB,4,none⟩=false∧w'.frozen? ⟨WB,5,none⟩=false∧w'.frozen? ⟨WB,6,none⟩=false∧w'.frozen? ⟨WB,7,none⟩=false∧w'.frozen? ⟨WB,8,none⟩=false∧w'.frozen? ⟨EB,0,none⟩=false))from by
  intro w' k;have ePW:=fun i=>World.cell?_of_block (a:=⟨PW,i,none⟩) (k.block PW (HG.out PW (by simp)))
  have ePE:=fun i=>World.cell?_of_block (a:=⟨PE,i,none⟩) (k.block PE (HG.out PE (by simp)))
  have eXB:=fun i=>World.cell?_of_block (a:=⟨XB,i,none⟩) (k.block XB (HG.out XB (by simp)))
  have eOB:=fun i=>World.cell?_of_block (a:=⟨OB,i,none⟩) (k.block OB (HG.out OB (by simp)))
  have eX:=fun i=>World.cell?_of_block (a:=⟨X,i,none⟩) (k.block X (HG.out X (by simp)))
  have eWS:=fun i=>World.cell?_of_block (a:=⟨WS,i,none⟩) (k.block WS (HG.out WS (by simp)))
  have hw9:=HWB.out.keep k (HG.out WB (by simp))
  have he9:=HEB.out.keep k (HG.out EB (by simp))
  have hf:=hw9.free;have hfe:=he9.free 0;obtain⟨z0,z1,z2,z3,z4,z5,z6,z7,z8⟩:=hw9.c9;have z9:=he9.cell 0;simp only[List.getElem?_cons_zero]at z9;exact⟨⟨(ePW 0).trans c1,(ePE 0).trans c2,(eXB 0).trans c3,(eOB 1).trans b1,(eOB 2).trans b2,(eX 0).trans kc0,(eX 1).trans kc1,(eX 2).trans kc2,(eX 3).trans kc3,(eX 4).trans kc4,(eX 5).trans kc5,(eX 6).trans kc6,(eX 7).trans kc7,(eX 8).trans kc8,(eX 9).trans kc9,(eWS 0).trans y0,(eWS 1).trans y1,(eWS 2).trans y2,(eWS 3).trans y3,(eWS 4).trans y4,(eWS 5).trans y5,(eWS 6).trans y6,(eWS 7).trans y7,(eWS 8).trans y8⟩,z0,z1,z2,z3,z4,z5,z6,z7,z8,z9,hf 0,hf 1,hf 2,hf 3,hf 4,hf 5,hf 6,hf 7,hf 8,hfe⟩)
 have HTB:=hid (show∀wa,Keeps (fun _=>True) w wa→Z 36 #[.pointer (some ⟨r,0,none⟩),.agg #[I docs,I terms,I q0,I q1,I q2,I q3,I book,I room,kk,bb],.agg #[.slice SA segs.length sc,I wt,J wv,I u0,I u1,I u2,I u3,I u4,I u5],.agg #[J id,.slice FA fs.length fc]] wa fun e w'=>∃(SA2:Option Addr) (s2:Nat),e= .returned (.tuple #[.agg #[.slice SA2 segs'.length s2,I t',J v',I x0,I x1,I x2,I x3,I x4,I x5],I er])∧Hid (SlAt w' (fun b=>Ks b∨(w.heap.size≤b∧b<w'.heap.size∧b≠r∧b≠m∧b≠c)) 3 (.slice SA2 segs'.length s2) segs'.length (segs'.flatMap SegM.cells)∧RM w' G r m c sz∧Keeps G w w')∧(w'.cell? ⟨PW,0,none⟩=some (.pointer (some ⟨WB,0,none⟩))∧w'.cell? ⟨PE,0,none⟩=some (.pointer (some ⟨EB,0,none⟩))∧w'.cell? ⟨XB,0,none⟩=some (.pointer (some ⟨X,0,none⟩))∧w'.cell? ⟨OB,1,none⟩=some (J id)∧w'.cell? ⟨OB,2,none⟩=some (.slice FA fs.length fc)∧(e0_10 w' X (I docs) (I terms) (I q0) (I q1) (I q2) (I q3) (I book) (I room) (kk) (bb) (d0_9 w' WS (.slice SA segs.length sc) (I wt) (J wv) (I u0) (I u1) (I u2) (I u3) (I u4) (I u5))))∧(e0_9 w' WB (l0) (l1) (l2) (l3) (l4) (l5) (l6) (l7) (l8) (w'.cell? ⟨EB,0,none⟩=some (I e0)∧w'.frozen? ⟨WB,0,none⟩=false∧w'.frozen? ⟨WB,1,none⟩=false∧w'.frozen? ⟨WB,2,none⟩=false∧w'.frozen? ⟨WB,3,none⟩=false∧w'.frozen? ⟨WB,4,none⟩=false∧w'.frozen? ⟨WB,5,none⟩=false∧w'.frozen? ⟨WB,6,none⟩=false∧w'.frozen? ⟨WB,7,none⟩=false∧w'.frozen? ⟨WB,8,none⟩=false∧w'.frozen? ⟨EB,0,none⟩=false))from fun wa h1=>by
  have hh:=HR.out.keep _ h1 fun _ _ _=>trivial;have hsz9:=h1.size;have hk:=write_add hh (HG.out 0 (by simp)) (HT.out.keep h1 trivial) (HF.out.keep (h1.mono fun _ _=>trivial)) ⟨docs,terms,q0,q1,q2,q3,book,room,kk,bb⟩ Hcf.out ⟨segs,wt,wv,⟨u0,u1,u2,u3,u4,u5⟩⟩ live SA sc id fs FA fc Hlive.out (fun b h=>(HKS.out b h).1) (HSL.out.keep h1 fun _ _=>trivial) (HFL.out.keep h1 fun _ _=>trivial) hfn Hok.out hns Hid9.out Hv.out Hui.out Htm.out Hlb.out
  rw[Hres.out]at hk;unfold WrM.vals ConfM.list at hk;dsimp only at hk;refine hk.mono ?_;rintro e w' ⟨v9,K',g0,rfl,g1,g2,g3⟩;have hk9:Keeps G w w':=(h1.mono fun _ _=>trivial:Keeps G w wa).trans g3;have g5:=g1;obtain⟨SA2,s2,rfl,_⟩:=g1;have hlt:=g2.lt;have hnr:=g2.kr;have hnm:=g2.km;have hnc:=g2.kc;exact⟨SA2,s2,rfl,⟨g5.mono (fun b hb=>hb.imp (fun h=>h) fun h=>⟨by omega,hlt b h.1,fun e=>hnr (e▸h.1),fun e=>hnm (e▸h.1),fun e=>hnc (e▸h.1)⟩),g2.mono g0,hk9⟩,HSS.out _ hk9⟩)
 go_upto_region 2 with fail
 go_region_held3 (fun w'=>w'.cell? ⟨PW,0,none⟩=some (.pointer (some ⟨WB,0,none⟩))∧w'.cell? ⟨PE,0,none⟩=some (.pointer (some ⟨EB,0,none⟩))∧w'.cell? ⟨XB,0,none⟩=some (.pointer (some ⟨X,0,none⟩))∧w'.cell? ⟨OB,1,none⟩=some (J id)∧w'.cell? ⟨OB,2,none⟩=some (.slice FA fs.length fc)∧(e0_10 w' X (I docs) (I terms) (I q0) (I q1) (I q2) (I q3) (I book) (I room) (kk) (bb) (d0_9 w' WS (.slice SA segs.length sc) (I wt) (J wv) (I u0) (I u1) (I u2) (I u3) (I u4) (I u5)))) (go_keep)
  (first|(go_at_call 36;refine(HTB.out _ ?_).mono ?_;(focus((repeat(first|with_reducible exact Keeps.refl _ _|with_reducible refine Keeps.drew ?_|with_reducible refine Keeps.drewN ?_ _|with_reducible refine Keeps.alloc ?_ ?_ _));done));rintro e wb ⟨SA2,s2,rfl,HBW,⟨q0,q1,q2,q3,q4,q5,q6,q7,q8,q9,q10,q11,q12,q13,q14,q15,q16,q17,q18,q19,q20,q21,q22,q23⟩,z0,z1,z2,z3,z4,z5,z6,z7,z8,z9,r0,r1,r2,r3,r4,r5,r6,r7,r8,r9⟩))
 all_goals
  go_wp2_with fail
  go_end0
  have hGW:=HG.out WB (by simp)
  have hGE:=HG.out EB (by simp)
  have hE9:=blk_out9 (HWB.out.keep HBW.out.2.2 hGW) rfl (.slice SA2 segs'.length s2) (I t') (J v') (I x0) (I x1) (I x2) (I x3) (I x4) (I x5);have hkn:=keeps_out9 (K:=(· ≠WB)) (b:=WB) (Keeps.refl _ wb) (fun h=>h rfl) (.slice SA2 segs'.length s2) (I t') (J v') (I x0) (I x1) (I x2) (I x3) (I x4) (I x5);generalize (((((((((wb.setCell ⟨WB,0,none⟩ (.slice SA2 segs'.length s2)).setCell ⟨WB,1,none⟩ (I t')).setCell ⟨WB,2,none⟩ (J v')).setCell ⟨WB,3,none⟩ (I x0)).setCell ⟨WB,4,none⟩ (I x1)).setCell ⟨WB,5,none⟩ (I x2)).setCell ⟨WB,6,none⟩ (I x3)).setCell ⟨WB,7,none⟩ (I x4)).setCell ⟨WB,8,none⟩ (I x5))=W9 at*
  have hke:Keeps (· ≠EB) W9 (W9.setCell ⟨EB,0,none⟩ (I er)):=(Keeps.refl _ _).setCell (p:=⟨EB,0,none⟩) (fun h=>h rfl) _;have hB9:=hE9.keep hke n13;have hEE:=((HEB.out.keep HBW.out.2.2 hGE).keep hkn k13).set 0 (I er);have hkk:Keeps (fun b=>b≠WB∧b≠EB) wb (W9.setCell ⟨EB,0,none⟩ (I er)):=(hkn.mono fun b hb=>hb.1).trans (hke.mono fun b hb=>hb.2);have hs9:=hkk.size;refine hR'.out _ _ ⟨rfl,HBW.out.2.1.keep _ hkk (fun b _ hb=>⟨fun e=>hb (e▸hGW),fun e=>hb (e▸hGE)⟩),(HBW.out.2.2.mono fun b hb=>hb.1).trans (hkk.mono fun b hb=>hb.2),hEE,SA2,s2,hB9,?_⟩
  refine(HBW.out.1.keep hkk fun b hb=>?_).mono fun b hb=>hb.imp (fun h=>h) fun h=>⟨h.1,by omega,h.2.2⟩
  rcases hb with h|h
  ·exact(HKS.out b h).2
  ·have h1:=HWB.out.lt;have h2:=HEB.out.lt;exact⟨by omega,by omega⟩):p:=h
theorem c259 (h:p:=by
 refine calls_hide fun R' hR'=>?_;unfold PlanM.val V6.val
 go_enter Tryz.func108,Tryz.ntmps108
 go_wp2_with fail
 refine wp_gen (fun W=>Blk W w.heap.size [I b0,I b1,I b2,I b3,I b4,I b5,I s0,I s1,I s2,I s3,I s4,I s5,I pc,I ps,I pl]∧Blk W (w.heap.size+1) [I u0,I u1,I u2,I u3,I u4,I u5]∧Blk W (w.heap.size+1+1) [I 0,I 0,I 0,I 0,I 0,I 0]∧Keeps (· <w.heap.size) w W) ⟨?_,?_,?_,?_⟩ ?_
 ·exact c65
 ·exact bA
 ·exact bA
 ·exact kA
 rintro W ⟨hB0,hB1,hB2,hk⟩;exact zz38.down):p:=h
theorem c260 (h:p:=by
 have c0:W.cell? ⟨w.heap.size,0,none⟩=some (I b0):=hB0.cell 0;have c6:W.cell? ⟨w.heap.size,6,none⟩=some (I s0):=hB0.cell 6;have d4:W.cell? ⟨w.heap.size+1,0,none⟩=some (I u0):=hB1.cell 0;have f1:=hB1.free 0
 go_quiet (fail)
 go_wp2_with fail
 go_quiet (fail)
 go_wp2_with fail
 go_quiet (fail)
 go_wp2_with fail
 clear c0 c6 d4 f1;refine wp_gen (fun W'=>Blk W' (w.heap.size+1) [I (u0+n),I u1,I u2,I u3,I u4,I u5]∧Blk W' (w.heap.size+1+1) [I 0,I 0,I 0,I 0,I 0,I 0]∧Keeps (· <w.heap.size) w W') ⟨?_,?_,?_⟩ ?_
 ·first|(simpa using((hB1.drewN _).set 0 (I (u0+n))))|(simpa using(((hB1.drewN _).drewN _).set 0 (I (u0+n))))|(simpa using((((hB1.drewN _).drewN _).drewN _).set 0 (I (u0+n))))
 ·exact bA
 ·exact kA
 have zz101:=PLift.up @c529;exact c528):p:=h
theorem c261 (h:p:=by
 have c0:W.cell? ⟨w.heap.size,1,none⟩=some (I b1):=hB0.cell 1;have c6:W.cell? ⟨w.heap.size,7,none⟩=some (I s1):=hB0.cell 7;have d4:W.cell? ⟨w.heap.size+1,1,none⟩=some (I u1):=hB1.cell 1;have f1:=hB1.free 1
 go_quiet (fail)
 go_wp2_with fail
 go_quiet (fail)
 go_wp2_with fail
 go_quiet (fail)
 go_wp2_with fail
 clear c0 c6 d4 f1;refine wp_gen (fun W'=>Blk W' (w.heap.size+1) [I u0,I (u1+n),I u2,I u3,I u4,I u5]∧Blk W' (w.heap.size+1+1) [I 0,I 0,I 0,I 0,I 0,I 0]∧Keeps (· <w.heap.size) w W') ⟨?_,?_,?_⟩ ?_
 ·first|(simpa using((hB1.drewN _).set 1 (I (u1+n))))|(simpa using(((hB1.drewN _).drewN _).set 1 (I (u1+n))))|(simpa using((((hB1.drewN _).drewN _).drewN _).set 1 (I (u1+n))))
 ·exact bA
 ·exact kA
 have zz102:=PLift.up @c532;exact c531):p:=h
theorem c262 (h:p:=by
 have c0:W.cell? ⟨w.heap.size,2,none⟩=some (I b2):=hB0.cell 2;have c6:W.cell? ⟨w.heap.size,8,none⟩=some (I s2):=hB0.cell 8;have d4:W.cell? ⟨w.heap.size+1,2,none⟩=some (I u2):=hB1.cell 2;have f1:=hB1.free 2
 go_quiet (fail)
 go_wp2_with fail
 go_quiet (fail)
 go_wp2_with fail
 go_quiet (fail)
 go_wp2_with fail
 clear c0 c6 d4 f1;refine wp_gen (fun W'=>Blk W' (w.heap.size+1) [I u0,I u1,I (u2+n),I u3,I u4,I u5]∧Blk W' (w.heap.size+1+1) [I 0,I 0,I 0,I 0,I 0,I 0]∧Keeps (· <w.heap.size) w W') ⟨?_,?_,?_⟩ ?_
 ·first|(simpa using((hB1.drewN _).set 2 (I (u2+n))))|(simpa using(((hB1.drewN _).drewN _).set 2 (I (u2+n))))|(simpa using((((hB1.drewN _).drewN _).drewN _).set 2 (I (u2+n))))
 ·exact bA
 ·exact kA
 have zz103:=PLift.up @c535;exact c534):p:=h
theorem c263 (h:p:=by
 have c0:W.cell? ⟨w.heap.size,3,none⟩=some (I b3):=hB0.cell 3;have c6:W.cell? ⟨w.heap.size,9,none⟩=some (I s3):=hB0.cell 9;have d4:W.cell? ⟨w.heap.size+1,3,none⟩=some (I u3):=hB1.cell 3;have f1:=hB1.free 3
 go_quiet (fail)
 go_wp2_with fail
 go_quiet (fail)
 go_wp2_with fail
 go_quiet (fail)
 go_wp2_with fail
 clear c0 c6 d4 f1;refine wp_gen (fun W'=>Blk W' (w.heap.size+1) [I u0,I u1,I u2,I (u3+n),I u4,I u5]∧Blk W' (w.heap.size+1+1) [I 0,I 0,I 0,I 0,I 0,I 0]∧Keeps (· <w.heap.size) w W') ⟨?_,?_,?_⟩ ?_
 ·first|(simpa using((hB1.drewN _).set 3 (I (u3+n))))|(simpa using(((hB1.drewN _).drewN _).set 3 (I (u3+n))))|(simpa using((((hB1.drewN _).drewN _).drewN _).set 3 (I (u3+n))))
 ·exact bA
 ·exact kA
 have zz104:=PLift.up @c538;exact c537):p:=h
theorem c264 (h:p:=by
 have c0:W.cell? ⟨w.heap.size,4,none⟩=some (I b4):=hB0.cell 4;have c6:W.cell? ⟨w.heap.size,10,none⟩=some (I s4):=hB0.cell 10;have d4:W.cell? ⟨w.heap.size+1,4,none⟩=some (I u4):=hB1.cell 4;have f1:=hB1.free 4
 go_quiet (fail)
 go_wp2_with fail
 go_quiet (fail)
 go_wp2_with fail
 go_quiet (fail)
 go_wp2_with fail
 clear c0 c6 d4 f1;refine wp_gen (fun W'=>Blk W' (w.heap.size+1) [I u0,I u1,I u2,I u3,I (u4+n),I u5]∧Blk W' (w.heap.size+1+1) [I 0,I 0,I 0,I 0,I 0,I 0]∧Keeps (· <w.heap.size) w W') ⟨?_,?_,?_⟩ ?_
 ·first|(simpa using((hB1.drewN _).set 4 (I (u4+n))))|(simpa using(((hB1.drewN _).drewN _).set 4 (I (u4+n))))|(simpa using((((hB1.drewN _).drewN _).drewN _).set 4 (I (u4+n))))
 ·exact bA
 ·exact kA
 have zz105:=PLift.up @c541;exact c540):p:=h
theorem c265 (h:p:=by
 refine wp_gen (fun W=>Blk W w.heap.size [I b0,I b1,I b2,I b3,I b4,I b5,I s0,I s1,I s2,I s3,I s4,I s5,I pc,I ps,I pl]∧
  Blk W (w.heap.size+1) [I u0,I u1,I u2,I u3,I u4,I u5]∧Blk W (w.heap.size+1+1) [I 0,I 0,I 0,I 0,I 0,I 0]∧Keeps (· <w.heap.size) w W) ⟨?_,?_,?_,?_⟩ ?_
 ·exact bA
 ·exact bA
 ·exact bA
 ·exact kA
 rintro W ⟨hB0,hB1,hB2,hk⟩;have c0:=hB0.cell;have c1:=hB1.cell;have f1:=hB1.free;have f2:=hB2.free;exact zz39.down):p:=h
theorem c266 (h:p:=by
 have c4:=hB0.cell 4;have d4:=hB1.cell 4;simp only[List.getElem?_cons_zero,List.getElem?_cons_succ]at c4 d4;clear c0 c1
 go_quiet (fail)
 go_wp2_with fail
 clear c4 d4 f1 f2;refine wp_gen (fun W'=>Blk W' (w.heap.size+1) [I u0,I u1,I u2,I u3,I (u4+n),I u5]∧Blk W' (w.heap.size+1+1) [I 0,I 0,I 0,I 0,I 0,I 0]∧Keeps (· <w.heap.size) w W') ⟨?_,?_,?_⟩ ?_
 ·simpa using((hB1.drewN nq).set 4 (I (u4+n)))
 ·exact bA
 ·exact kA
 have zz105:=PLift.up @c542;exact c540):p:=h
theorem c267 (h:p:=by
 have c4:=hB0.cell 0;have d4:=hB1.cell 0;simp only[List.getElem?_cons_zero,List.getElem?_cons_succ]at c4 d4;clear c0 c1
 go_quiet (fail)
 go_wp2_with fail
 clear c4 d4 f1 f2;refine wp_gen (fun W'=>Blk W' (w.heap.size+1) [I (u0+n),I u1,I u2,I u3,I u4,I u5]∧Blk W' (w.heap.size+1+1) [I 0,I 0,I 0,I 0,I 0,I 0]∧Keeps (· <w.heap.size) w W') ⟨?_,?_,?_⟩ ?_
 ·simpa using((hB1.drewN nq).set 0 (I (u0+n)))
 ·exact bA
 ·exact kA
 have zz101:=PLift.up @c530;exact c528):p:=h
theorem c268 (h:p:=by
 have c4:=hB0.cell 1;have d4:=hB1.cell 1;simp only[List.getElem?_cons_zero,List.getElem?_cons_succ]at c4 d4;clear c0 c1
 go_quiet (fail)
 go_wp2_with fail
 clear c4 d4 f1 f2;refine wp_gen (fun W'=>Blk W' (w.heap.size+1) [I u0,I (u1+n),I u2,I u3,I u4,I u5]∧Blk W' (w.heap.size+1+1) [I 0,I 0,I 0,I 0,I 0,I 0]∧Keeps (· <w.heap.size) w W') ⟨?_,?_,?_⟩ ?_
 ·simpa using((hB1.drewN nq).set 1 (I (u1+n)))
 ·exact bA
 ·exact kA
 have zz102:=PLift.up @c533;exact c531):p:=h
theorem c269 (h:p:=by
 have c4:=hB0.cell 2;have d4:=hB1.cell 2;simp only[List.getElem?_cons_zero,List.getElem?_cons_succ]at c4 d4;clear c0 c1
 go_quiet (fail)
 go_wp2_with fail
 clear c4 d4 f1 f2;refine wp_gen (fun W'=>Blk W' (w.heap.size+1) [I u0,I u1,I (u2+n),I u3,I u4,I u5]∧Blk W' (w.heap.size+1+1) [I 0,I 0,I 0,I 0,I 0,I 0]∧Keeps (· <w.heap.size) w W') ⟨?_,?_,?_⟩ ?_
 ·simpa using((hB1.drewN nq).set 2 (I (u2+n)))
 ·exact bA
 ·exact kA
 have zz103:=PLift.up @c536;exact c534):p:=h
theorem c270 (h:p:=by
 have c4:=hB0.cell 3;have d4:=hB1.cell 3;simp only[List.getElem?_cons_zero,List.getElem?_cons_succ]at c4 d4;clear c0 c1
 go_quiet (fail)
 go_wp2_with fail
 clear c4 d4 f1 f2;refine wp_gen (fun W'=>Blk W' (w.heap.size+1) [I u0,I u1,I u2,I (u3+n),I u4,I u5]∧Blk W' (w.heap.size+1+1) [I 0,I 0,I 0,I 0,I 0,I 0]∧Keeps (· <w.heap.size) w W') ⟨?_,?_,?_⟩ ?_
 ·simpa using((hB1.drewN nq).set 3 (I (u3+n)))
 ·exact bA
 ·exact kA
 have zz104:=PLift.up @c539;exact c537):p:=h
theorem c271 (h:p:=by
 have c4:=hB0.cell 5;have d4:=hB1.cell 5;simp only[List.getElem?_cons_zero,List.getElem?_cons_succ]at c4 d4;clear c0 c1
 go_quiet (fail)
 go_wp2_with fail
 clear c4 d4 f1 f2;refine wp_gen (fun W'=>Blk W' (w.heap.size+1) [I u0,I u1,I u2,I u3,I u4,I (u5+n)]∧Blk W' (w.heap.size+1+1) [I 0,I 0,I 0,I 0,I 0,I 0]∧Keeps (· <w.heap.size) w W') ⟨?_,?_,?_⟩ ?_
 ·simpa using((hB1.drewN nq).set 5 (I (u5+n)))
 ·exact bA
 ·exact kA
 have zz151:=PLift.up @c716;exact c715):p:=h
theorem c272 (h:p:=by
 obtain⟨segs,wt,wv,u0,u1,u2,u3,u4,u5⟩:=W;dsimp only at*;have fin:∀{e:Ending} {w':World} {er:Int},(e= .returned (.tuple #[I er,.agg #[.slice A cs.length cp,.slice A2 segs.length cp2,I wt,J wv,I u0,I u1,I u2,I u3,I u4,I u5]])∧Keeps (· <w.heap.size) w w')→
   RefOut w w' K e er cs ⟨segs,wt,wv,⟨u0,u1,u2,u3,u4,u5⟩⟩:=fun h=>RefOut.same (W:=⟨segs,wt,wv,⟨u0,u1,u2,u3,u4,u5⟩⟩) h hb hsl hs2
 exact zz40.down):p:=h
theorem c273 (h:p:=by
 have hq:∀b,(rplaceL cs id segs 0).2.2=b→rplaceL cs id segs 0=((rplaceL cs id segs 0).1,(rplaceL cs id segs 0).2.1,b):=fun b h=>Prod.ext rfl (Prod.ext rfl h)
 cases hway with
 |dup h1=>exact(radd_dup cs segs wt wv u0 u1 u2 u3 u4 u5 C C.plan live id fs FA fc A cp A2 cp2 w K hb hsl hn0 hcn hs2 hlive hns hok hfl hfn hcf htk (hq _ h1)).mono fun _ _ h=>fin h
 |seg h1 h2=>exact(radd_seg cs segs wt wv u0 u1 u2 u3 u4 u5 C C.plan live id fs FA fc A cp A2 cp2 w K hb hsl hn0 hcn hs2 hlive hns hok hfl hfn hcf htk (hq _ h1) h2).mono fun _ _ h=>fin h
 |terms h1 h2 h3=>
  exact(radd_terms cs segs wt wv u0 u1 u2 u3 u4 u5 C C.plan live id fs FA fc A cp A2 cp2 w K hb hsl hn0 hcn hs2 hlive hns hok hfl hfn hcf htk (hq _ h1) h2 P hP hl hpf s hrow hs1 hu hwt ⟨hver,by omega⟩ hall hlk (fr:=(needsP C.plan all 0 zero6).1)
   (m0:=(needsP C.plan all 0 zero6).2.a0) (m1:=(needsP C.plan all 0 zero6).2.a1) (m2:=(needsP C.plan all 0 zero6).2.a2) (m3:=(needsP C.plan all 0 zero6).2.a3) (m4:=(needsP C.plan all 0 zero6).2.a4) (m5:=(needsP C.plan all 0 zero6).2.a5) rfl h3).mono fun _ _ h=>fin h
 |full h1 h2 h3 h4=>
  exact(radd_full cs segs wt wv u0 u1 u2 u3 u4 u5 C C.plan live id fs FA fc A cp A2 cp2 w K hb hsl hn0 hcn hs2 hlive hns hok hfl hfn hcf htk (hq _ h1) h2 P hP hl hpf s hrow hs1 hu hwt ⟨hver,by omega⟩ hall hlk (fr:=(needsP C.plan all 0 zero6).1)
   (m0:=(needsP C.plan all 0 zero6).2.a0) (m1:=(needsP C.plan all 0 zero6).2.a1) (m2:=(needsP C.plan all 0 zero6).2.a2) (m3:=(needsP C.plan all 0 zero6).2.a3) (m4:=(needsP C.plan all 0 zero6).2.a4) (m5:=(needsP C.plan all 0 zero6).2.a5) rfl h3 hui h4).mono fun _ _ h=>fin h
 |good cs1 u' qa h1 h2 h3 h4 h5 h6 h7=>
  have hml:(moreDocs segs).length=segs.length:=by
   obtain⟨k,hk,hk2⟩:=last_ix hlive;rw[←moreDocs_set hk hk2,List.length_set]
  have hlen:=h5.len;refine(radd_good cs segs wt wv u0 u1 u2 u3 u4 u5 C C.plan live id fs FA fc A cp A2 cp2 w K hb hsl hn0 hcn hs2 hlive hns hok hfl hfn hcf htk (hq _ h1) h2 P hP hl hpf s hrow hs1 hu hwt ⟨hver,by omega⟩ hall hlk (fr:=(needsP C.plan all 0 zero6).1)
   (m0:=(needsP C.plan all 0 zero6).2.a0) (m1:=(needsP C.plan all 0 zero6).2.a1) (m2:=(needsP C.plan all 0 zero6).2.a2) (m3:=(needsP C.plan all 0 zero6).2.a3) (m4:=(needsP C.plan all 0 zero6).2.a4) (m5:=(needsP C.plan all 0 zero6).2.a5) rfl h3 hui h4 cs1 u' h5 qa (by rw[←hbase];exact h6) (by omega)).mono ?_
  rintro e w' ⟨NL,A3,cp3,rfl,hge,hNL,hsg,hk⟩;have hll:((layL cs1 qa id (toks.length:Int) (wv+1)).set 1 (wv+1)).length=cs.length:=by unfold layL;simp[hlen]
  refine⟨.slice (some ⟨NL,0,none⟩) cs.length cs.length,.slice A3 segs.length cp3,?_,?_,?_,hk⟩
  ·show _=Ending.returned (.tuple #[I 0,.agg #[.slice (some ⟨NL,0,none⟩) cs.length cs.length,.slice A3 segs.length cp3,I (wt+(needsP C.plan all 0 zero6).1),J (wv+1),I u'.a0,I u'.a1,I u'.a2,I u'.a3,I u'.a4,I u'.a5]])
   rfl
  ·rw[hll];exact(SlAt.of_blk9 hNL (by rw[List.length_map];exact hll) hcn).mono fun b h=>by rw[h];exact Or.inr ⟨hge,hNL.lt⟩
  ·show SlAt w' _ 3 _ (moreDocs segs).length _;rw[hml];exact hsg.mono fun b h=>Or.inr h):p:=h
theorem c274 (h:p:=by
 unfold rdelL at hr;dsimp only at hr
 cases hp:(rplaceL cs id segs 0).2.2 with
 |false=>
  rw[if_pos hp]at hr;injection hr with e1 e2
  injection e2 with e2 e3
  subst e1 e2 e3;exact(ref12_del_none cs segs wt wv u0 u1 u2 u3 u4 u5 id A cp A2 cp2 w K hb hsl hn0 hcn hs2 hl0 hns hok (i:=(rplaceL cs id segs 0).1) (d:=(rplaceL cs id segs 0).2.1) (Prod.ext rfl (Prod.ext rfl hp))).mono fun _ _ h=>fin h
 |true=>
  obtain⟨j,d,qa,x,h1,h2,h3,h4,h5,h6,h7,h8⟩:=hfound hp;rw[if_neg (by rw[hp];decide),h2]at hr
  dsimp only at hr;rw[Int.toNat_natCast,h1]at hr;dsimp only at hr;rw[h4,Int.toNat_natCast]at hr;refine(ref12_del_found cs segs wt wv u0 u1 u2 u3 u4 u5 id A cp A2 cp2 w K hb hsl hn0 hcn hs2 hl0 hns hok h2 h1 ⟨by omega,by have:=(hok x (List.mem_of_getElem? h1)).2;omega⟩ h4 h5 (by omega) hu ⟨hver,by omega⟩).mono ?_
  intro e w' hres
  by_cases h0:cs.getD qa 0≠0
  ·rw[if_pos h0]at hr;injection hr with e1 e2
   injection e2 with e2 e3
   subst e1 e2 e3;obtain⟨g1,g2⟩:=hres;rw[if_pos h0]at g1;exact fin ⟨g1,g2⟩
  ·rw[if_neg h0]at hr;injection hr with e1 e2
   injection e2 with e2 e3
   subst e1 e2 e3;obtain⟨g1,hk⟩:=hres;rw[if_neg h0]at g1;obtain⟨NB,A3,cp3,rfl,hge,hNB,hog⟩:=g1;refine⟨.slice (some ⟨NB,0,none⟩) cs.length cs.length,.slice A3 segs.length cp3,rfl,?_,?_,hk⟩
   ·have hll:((cs.set qa (wv+1)).set 1 (wv+1)).length=cs.length:=by simp
    rw[hll];exact(SlAt.of_blk9 hNB (by rw[List.length_map];exact hll) hcn).mono fun b h=>by rw[h];exact Or.inr ⟨hge,hNB.lt⟩
   ·exact(own_slAtL hog).mono fun b hb=>Or.inr (ownB_lt hog hb)):p:=h
theorem c275 (h:p:=by
 have HRQ:=hid hres;have gl:((lf:Int)==0)=false:=by simp[hl0]
 have gw:IntKind.i64.wrap ((lf:Int)-1)=(lf:Int)-1:=IntWalk.i64_in _ (by omega)
 have HO:=hid hO;have HBD:=hid (show∀j,j≤3→0≤o.uK j∧o.uK j+256*m≤10000000 from fun j hj=>by have:=hbd j hj;omega)
 have HL:=hid (show 0<lf∧lf≤256∧k'≤3 from by omega)
 have HLT:=hid hlt;clear hres hbd hKO HI hk' him hlf hO hl0
 go_wp2_with fail
 exact zz41.down):p:=h
theorem c276 (h:p:=by
 go_roundw
 case rel=>
  refine⟨i+1,m,lf-1,k',o,by first|rfl|(have hx:=HL.out;congr 1;omega),by first|rfl|go_num,by first|rfl|go_num,HL.out.2.2,by have:=HL.out;omega,HIM.out,hid ⟨?_,?_,HBD.out,HRQ.out⟩⟩
  ·repeat(first|exact HO.out|with_reducible refine Blk.drew ?_)
  ·repeat(first|with_reducible exact HKO.out|with_reducible refine Keeps.drew ?_)
 case measure=>have:=HLT.out;simp[intOf];omega):p:=h
theorem c277 (h:p:=by
 exact c276):p:=h
theorem c278 (h:p:=by
 have hd:=decode_pos s pos;have hd4:=decode_four s pos;have hex:=HE.out;rw[runesF_next hp (by omega)]at hex
 have hmu:wr.iterPos w.heap.size=pos:=by simp[World.iterPos,hit]
 have hR1:=HR.out.iter (pos+(Utf8.decode s pos).2);generalize wr.iterAt w.heap.size s (pos+(Utf8.decode s pos).2)=W1 at hnx hR1;generalize ((Utf8.decode s pos).1:Int)=c at hnx hex;generalize (Utf8.decode s pos).2=d at*;have hBs:=hR1.lt;exact zz42.down):p:=h
theorem c279 (h:p:=by
 have Hex:=hid hex;have HR1:=hid hR1;clear hex hR1;clear HE HR;obtain⟨i0,hi,hz0,hz1,hz2⟩:=info_partsF Tryz.infoI32
 go_wp2_with (at_builtin;go_must (refine wpList_append_own_at _ rfl _ _ 179 rfl ((w.heap.size+1)) 21 i0 (.int .i32 0) 1 4 Tryz.underlying179 hi hz0 hz1 hz2 rfl (by decide) (.slice A acc.length cp) acc.length (acc.map (Value.int .i32)) rfl (ownB_keepS HR1.out.own ((Keeps.refl _ _).alloc (fun b hb=>hb) _)) ⟨W1.heap.size,0,none⟩ 1 1 [.int .i32 c] rfl (by simp) (own_news (own_lit W1 0 _ _ 1 1 [.int .i32 c] rfl rfl (by decide) (Nat.zero_le _))) ?_ ?_ ?_ ?_ ?_))
 all_goals(try(first|with_reducible exact one1 _ _|with_reducible exact one2 _ _ _|with_reducible exact one4 _ _ _ _ _|with_reducible exact oneM _ _|exact rfl|exact fun _ _=>rfl|exact⟨rfl,rfl⟩|exact⟨rfl,rfl,rfl⟩|exact⟨rfl,rfl,rfl,rfl⟩|(unfold maxLen;omega)|omega|(simp;omega)|(simp;done)))
 (try clear hi)
 (try clear hz0)
 (try clear hz1)
 (try clear hz2)
 intro v' w6 hown hgr _ hf;have hl1:acc.length+1=(acc++[c]).length:=by simp
 have hl2:acc.map (Value.int .i32)++[.int .i32 c]=(acc++[c]).map (Value.int .i32):=by simp
 rw[hl1,hl2]at hown;have hN:=HR1.out.push (acc':=acc++[c]) ((Keeps.refl _ _).alloc (fun b hb=>hb) _) hown hgr;obtain⟨A',cp',rfl⟩:=ownB_form hown;have hlen:(acc++[c]).length≤pos+d:=by simp;omega
 have hex2:(acc++[c])++runesF s s.size (pos+d)=runesS s:=by rw[←Hex.out];simp
 generalize acc++[c]=acc2 at hN hlen hl1 hl2 hex2 ⊢;have hit2:=hN.it;clear hown hgr hf hl1 hl2;have HN:=hid hN;have Hex2:=hid hex2;clear hN hex2
 go_wp2_with fail
 go_roundw
 case rel=>exact⟨pos+d,acc2,A',cp',rfl,hlen,by omega,hit2,HN,Hex2⟩
 case measure=>simp[World.iterPos,hit2,hit];omega):p:=h
theorem c280 (h:p:=by
 have hes:=enc_size c;rw[fitL_cons]at hex
 by_cases hbig:(encB c).length+acc.length>n
 ·have hbigI:((encB c).length:Int)>(n:Int)-(acc.length:Int):=by omega
  rw[if_pos hbig]at hex;have hfs:fitS n (runesS s)=⟨acc.toArray⟩:=by unfold fitS;rw[←hex]
  have hcv:=hR1.newB.conv (P:=Tryz.prog) Tryz.underlying186 Tryz.underlying5 Tryz.underlying9
  have Hex:=hid hex;have HR1:=hid hR1;have Hfs:=hid hfs;clear hex hR1 hfs;clear HE HR hbig
  go_wp2_with fail
  exact hR'.out _ _ ⟨by rw[Hfs.out];rfl,HR1.out.keeps⟩
 ·have hbigI:¬((encB c).length:Int)>(n:Int)-(acc.length:Int):=by omega
  rw[if_neg hbig]at hex;have hN1:=hR1.newB;have he4:=encB_four c;have Hex:=hid hex;have HR1:=hid hR1;have HN1:=hid hN1;clear hex hR1 hN1;clear HE HR;obtain⟨i0,hi,hz0,hz1,hz2⟩:=info_partsF Tryz.infoU8
  go_wp2_with (at_builtin;refine Lib.wpList_append_own_string _ rfl _ _ 186 9 rfl (w.heap.size+1) 5 i0 Tryz.underlying186 Tryz.underlying9 hi hz0 hz1 hz2 (.slice A acc.length cp) acc.length (acc.map u8v) rfl (by have:=HR1.out.own;rw[u8i_map,u8i_len]at this;exact this) (Utf8.encode c) rfl ?_ ?_ ?_ ?_)
  all_goals(try(first|(unfold maxLen;omega)|omega))
  intro v' w6 hown hgr _;have hl2:acc.length+(encB c).length=(u8i (acc++encB c)).length:=by rw[u8i_len,List.length_append]
  have hl3:acc.map u8v++Lib.strCells (Utf8.encode c)=(u8i (acc++encB c)).map (Value.int .u8):=by rw[u8i_map,List.map_append];rfl
  rw[hl2,hl3]at hown;have hN:=HR1.out.push (acc':=u8i (acc++encB c)) (Keeps.refl _ _) hown hgr;obtain⟨A',cp',rfl⟩:=ownB_form hown;rw[u8i_len]at hN;have hle:(acc++encB c).length≤n:=by rw[List.length_append];omega
  have hit2:=hN.it;have HN:=hid hN;clear hN;clear hown hgr hi hz0 hz1 hz2 hl2 hl3
  go_wp2_with fail
  go_roundw
  case rel=>exact⟨pos+d,acc++encB c,A',cp',by rw[u8i_len],hle,by omega,hit2,HN,Hex⟩
  case measure=>simp[World.iterPos,hit2,hit];omega):p:=h
theorem c281 (h:p:=by
 have hp:0≤pos∧pos≤65535:=by omega
 have hw:wordOf d pos=65536*d+pos:=by unfold wordOf;rw[if_neg hh]
 rw[hw];refine calls_hide fun R' hR'=>?_;have g1:decide (d<0)=false:=decide_eq_false (by omega)
 have g2:decide (65535<d)=false:=decide_eq_false (by omega)
 have g3:decide (pos<0)=false:=decide_eq_false (by omega)
 have g4:decide (65535<pos)=false:=decide_eq_false (by omega)
 exact zz43.down):p:=h
theorem c282 (h:p:=by
 go_enter Tryz.func82,Tryz.ntmps82
 go_wp2_with fail
 rw[bits_word d pos hd hp];exact hR'.out _ _ ⟨⟨_,rfl⟩,rfl⟩):p:=h
theorem c283 (h:p:=by
 have w1:IntKind.i64.wrap (65536*d)=65536*d:=IntWalk.i64_in _ (by omega)
 have w2:IntKind.i64.wrap (65536*d+pos)=65536*d+pos:=IntWalk.i64_in _ (by omega)
 have w3:IntKind.u32.wrap (65536*d+pos)=65536*d+pos:=IntWalk.u32_in _ (by omega)
 exact c434):p:=h
theorem c284 (h:p:=by
 have hR6:=(hal.mono (K':=fun b=>K b∨(Value.slice A' out.length cp').ownBlock=some b) (fun b hb=>Or.inl hb)).append hgr (hfr.imp (fun h=>h) fun⟨b,h1,h2⟩=>⟨b,h1,by simpa using h2⟩) (fun b hb=>(hown'.lt b hb).2)
 have hK6:Keeps K w w6:=(HK4.out.alloc (fun b hb=>Nat.lt_of_lt_of_le (Hlt.out b hb) HK4.out.size) _).trans (keeps_append (fun b hb=>hal.lt b (Or.inl (Or.inl hb))) HO4.out.2 hgr);exact zz44.down):p:=h
theorem c285 (h:p:=by
 have hO6:TermOwn w6 K (.slice A9 (out.length+1) cp9) (out++[⟨key,0,0,1⟩]):=by
  exact c82
 have hC6:∀t'∈out++[(⟨key,0,0,1⟩:TermM)],0≤t'.cnt∧t'.cnt≤(i+1:Nat):=fun t' ht'=>by
  exact c136
 have hll:(out++[(⟨key,0,0,1⟩:TermM)]).length=out.length+1:=by simp
 rw[←hll]at hO6 hR6;generalize out++[(⟨key,0,0,1⟩:TermM)]=out2 at*;exact c72):p:=h
theorem c286 (h:p:=by
 have hO6:TermOwn w6 K (.slice A9 (out.length+1) cp9) (out++[⟨key,rc,tl,1⟩]):=by
  exact c82
 have hC6:∀t'∈out++[(⟨key,rc,tl,1⟩:TermM)],0≤t'.cnt∧t'.cnt≤(i+1:Nat):=fun t' ht'=>by
  exact c136
 have hll:(out++[(⟨key,rc,tl,1⟩:TermM)]).length=out.length+1:=by simp
 rw[←hll]at hO6 hR6;generalize out++[(⟨key,rc,tl,1⟩:TermM)]=out2 at*;exact c72):p:=h
theorem c287 (h:p:=by
 obtain⟨⟨b0,b1,b2,b3,b4,b5⟩,⟨s0,s1,s2,s3,s4,s5⟩,pc,ps,pl⟩:=p;obtain⟨u0,u1,u2,u3,u4,u5⟩:=u;simp only at h0 h2 h3 hu;have zz114:=PLift.up @c580;exact c573):p:=h
theorem c288 (h:p:=by
 have hw1:IntKind.i64.wrap (s4-u4)=s4-u4:=IntWalk.i64_in _ (by omega)
 have hd2:decide (s4-u4<n)=true:=by simp;omega
 exact c48):p:=h
theorem c289 (h:p:=by
 have hw1:IntKind.i64.wrap (s0-u0)=s0-u0:=IntWalk.i64_in _ (by omega)
 have hd2:decide (s0-u0<n)=true:=by simp;omega
 exact c48):p:=h
theorem c290 (h:p:=by
 have hw1:IntKind.i64.wrap (s1-u1)=s1-u1:=IntWalk.i64_in _ (by omega)
 have hd2:decide (s1-u1<n)=true:=by simp;omega
 exact c48):p:=h
theorem c291 (h:p:=by
 have hw1:IntKind.i64.wrap (s2-u2)=s2-u2:=IntWalk.i64_in _ (by omega)
 have hd2:decide (s2-u2<n)=true:=by simp;omega
 exact c48):p:=h
theorem c292 (h:p:=by
 have hw1:IntKind.i64.wrap (s3-u3)=s3-u3:=IntWalk.i64_in _ (by omega)
 have hd2:decide (s3-u3<n)=true:=by simp;omega
 exact c48):p:=h
theorem c293 (h:p:=by
 clear Hadd Hdel Hway HX;have hz9:=hZ;have hl1:=hZ.lt;have hl0:=hO.lt;have hXw:X<W1.heap.size:=by have:=hk.size;omega
 have y0:=(hX1.cell 35);have y1:=(hX1.cell 36);have y2:=(hX1.cell 37);have y3:=(hX1.cell 38);have y4:=(hX1.cell 39);have y5:=(hX1.cell 40);have y6:=(hX1.cell 41);have y7:=(hX1.cell 42);have y8:=(hX1.cell 43);have y9:=(hX1.cell 44);exact zz46.down):p:=h
theorem c294 (h:p:=by
 simp only[List.getElem?_cons_zero,List.getElem?_cons_succ]at y0 y1 y2 y3 y4 y5 y6 y7 y8 y9;have b1:=hO.cell 1;have b2:=hO.cell 2;simp only[List.getElem?_cons_zero,List.getElem?_cons_succ]at b1 b2;have hz8:=hZ;unfold st0 at hz8;obtain⟨z0,z1,z2,z3,z4,z5,z6,z7,z8,z9⟩:=hz8.c10;clear hz8;have HSS:=hid (show∀w':World,Keeps (· <W1.heap.size) W1 w'→(e35_10 w' X (.slice CA cn cc) (.slice TA tn tc) (I wt) (J wv) (I u0) (I u1) (I u2) (I u3) (I u4) (I u5) (w'.cell? ⟨B,1,none⟩=some (J id)))∧(d0_10 w' (B+1) (.slice none 0 0) (.slice none 0 0) (I 0) (J 0) (I 0) (I 0) (I 0) (I 0) (I 0) (I 0))∧(w'.frozen? ⟨B+1,0,none⟩=false∧w'.frozen? ⟨B+1,1,none⟩=false∧w'.frozen? ⟨B+1,2,none⟩=false∧w'.frozen? ⟨B+1,3,none⟩=false∧w'.frozen? ⟨B+1,4,none⟩=false∧w'.frozen? ⟨B+1,5,none⟩=false∧w'.frozen? ⟨B+1,6,none⟩=false∧w'.frozen? ⟨B+1,7,none⟩=false∧w'.frozen? ⟨B+1,8,none⟩=false∧w'.frozen? ⟨B+1,9,none⟩=false)from by
  intro w' k;have e0:=fun i=>World.cell?_of_block (a:=⟨X,i,none⟩) (k.block X hXw);have e1:=fun i=>World.cell?_of_block (a:=⟨B,i,none⟩) (k.block B hl0);have e2:=fun i=>World.cell?_of_block (a:=⟨B+1,i,none⟩) (k.block (B+1) hl1);exact⟨⟨(e0 _).trans y0,(e0 _).trans y1,(e0 _).trans y2,(e0 _).trans y3,(e0 _).trans y4,(e0 _).trans y5,(e0 _).trans y6,(e0 _).trans y7,(e0 _).trans y8,(e0 _).trans y9,(e1 _).trans b1⟩,⟨(e2 _).trans z0,(e2 _).trans z1,(e2 _).trans z2,(e2 _).trans z3,(e2 _).trans z4,(e2 _).trans z5,(e2 _).trans z6,(e2 _).trans z7,(e2 _).trans z8,(e2 _).trans z9⟩,(hz9.keep k hl1).free 0,(hz9.keep k hl1).free 1,(hz9.keep k hl1).free 2,(hz9.keep k hl1).free 3,(hz9.keep k hl1).free 4,(hz9.keep k hl1).free 5,(hz9.keep k hl1).free 6,(hz9.keep k hl1).free 7,(hz9.keep k hl1).free 8,(hz9.keep k hl1).free 9⟩)
 have HTB:=hid (show∀wa,Keeps (· <W1.heap.size) W1 wa→Z 37 #[.agg #[.slice CA cn cc,.slice TA tn tc,I wt,J wv,I u0,I u1,I u2,I u3,I u4,I u5],J id] wa fun e w'=>∃A3 c3 A4 c4,e= .returned (.tuple #[I er,.agg #[.slice A3 cs'.length c3,.slice A4 segs'.length c4,I t',J v',I x0,I x1,I x2,I x3,I x4,I x5]])∧Hid (SlAt w' (fun b=>K b∨(B≤b∧b<w'.heap.size∧b≠B∧b≠B+1)) 1 (.slice A3 cs'.length c3) cs'.length (cs'.map (Value.int .u32))∧SlAt w' (fun b=>K b∨(B≤b∧b<w'.heap.size∧b≠B∧b≠B+1)) 3 (.slice A4 segs'.length c4) segs'.length (segs'.flatMap SegM.cells)∧Keeps (· <W1.heap.size) W1 w')∧((e35_10 w' X (.slice CA cn cc) (.slice TA tn tc) (I wt) (J wv) (I u0) (I u1) (I u2) (I u3) (I u4) (I u5) (w'.cell? ⟨B,1,none⟩=some (J id)))∧(d0_10 w' (B+1) (.slice none 0 0) (.slice none 0 0) (I 0) (J 0) (I 0) (I 0) (I 0) (I 0) (I 0) (I 0))∧(w'.frozen? ⟨B+1,0,none⟩=false∧w'.frozen? ⟨B+1,1,none⟩=false∧w'.frozen? ⟨B+1,2,none⟩=false∧w'.frozen? ⟨B+1,3,none⟩=false∧w'.frozen? ⟨B+1,4,none⟩=false∧w'.frozen? ⟨B+1,5,none⟩=false∧w'.frozen? ⟨B+1,6,none⟩=false∧w'.frozen? ⟨B+1,7,none⟩=false∧w'.frozen? ⟨B+1,8,none⟩=false∧w'.frozen? ⟨B+1,9,none⟩=false))from fun wa h1=>by
  refine(HREF.out wa h1).mono ?_;rintro e w' ⟨cv,sv,rfl,g1,g2,g3⟩;have hk9:=h1.trans (g3.mono fun b hb=>by have:=h1.size;omega)
  have hge9:=h1.size;have hg9:∀b,(K b∨(wa.heap.size≤b∧b<w'.heap.size))→(K b∨(B≤b∧b<w'.heap.size∧b≠B∧b≠B+1)):=fun b hb=>hb.imp (fun h=>h) fun h=>⟨by omega,h.2,by omega,by omega⟩
  have g1:=g1.mono hg9;have g2:=g2.mono hg9;have g1':=g1;have g2':=g2;obtain⟨A3,c3,rfl,_⟩:=g1';obtain⟨A4,c4,rfl,_⟩:=g2';exact⟨A3,c3,A4,c4,rfl,⟨g1,g2,hk9⟩,HSS.out _ hk9⟩)
 have hXB:¬X=B+1:=by omega
 have hXB2:¬B+1=X:=by omega
 clear z0 z1 z2 z3 z4 z5 z6 z7 z8 z9;have HX1:=hid hX1;have HO:=hid hO;have HZ:=hid hZ;have Hk:=hid hk;clear hX1 hO hZ hk;clear hz9
 go_upto_region 2 with fail
 go_cut[4]from 8 to 17 (fun a wx=>∃A3 c3 A4 c4,a=I er∧Blk wx (B+1) [.slice A3 cs'.length c3,.slice A4 segs'.length c4,I t',J v',I x0,I x1,I x2,I x3,I x4,I x5]∧SlAt wx (fun b=>K b∨(B≤b∧b<wx.heap.size∧b≠B∧b≠B+1)) 1 (.slice A3 cs'.length c3) cs'.length (cs'.map (Value.int .u32))∧SlAt wx (fun b=>K b∨(B≤b∧b<wx.heap.size∧b≠B∧b≠B+1)) 3 (.slice A4 segs'.length c4) segs'.length (segs'.flatMap SegM.cells)∧Keeps (· <B) w wx)
 case first=>
  go_region_held3 (fun w'=>(e35_10 w' X (.slice CA cn cc) (.slice TA tn tc) (I wt) (J wv) (I u0) (I u1) (I u2) (I u3) (I u4) (I u5) (w'.cell? ⟨B,1,none⟩=some (J id)))) (go_keep)
   (first|(go_at_call 37;refine(HTB.out _ ?_).mono ?_;(focus((repeat(first|with_reducible exact Keeps.refl _ _|with_reducible refine Keeps.drew ?_|with_reducible refine Keeps.drewN ?_ _|with_reducible refine Keeps.alloc ?_ ?_ _));all_goals(intro b hb;exact hb)));rintro e wb ⟨A3,c3,A4,c4,rfl,HBW,⟨q0,q1,q2,q3,q4,q5,q6,q7,q8,q9,q10⟩,⟨z0,z1,z2,z3,z4,z5,z6,z7,z8,z9⟩,⟨r0,r1,r2,r3,r4,r5,r6,r7,r8,r9⟩⟩))
  all_goals
   go_wp2_with fail
   go_meet
   case rel=>
    exact c30
 case rest=>
  obtain⟨A3,c3,A4,c4,rfl,hE,g1,g2,hk9⟩:=hcut;obtain⟨d0,d1,d2,d3,d4,d5,d6,d7,d8,d9⟩:=hE.c10;clear hE HX1 HO HZ Hk HSS HTB HREF;have HG1:=hid g1;have HG2:=hid g2;have HK9:=hid hk9;clear g1 g2 hk9
  iterate 3 (first|go_values|go_skip|go_guarded|go_step|go_upon|go_back)
  exact c71):p:=h
theorem c295 (h:p:=by
 have k0:=(hX1.cell 0);have k1:=(hX1.cell 1);have k2:=(hX1.cell 2);have k3:=(hX1.cell 3);have k4:=(hX1.cell 4);have k5:=(hX1.cell 5);have k6:=(hX1.cell 6);have k7:=(hX1.cell 7);have k8:=(hX1.cell 8);have k9:=(hX1.cell 9);have p0:=(hX1.cell 10);have p1:=(hX1.cell 11);have p2:=(hX1.cell 12);have p3:=(hX1.cell 13);have p4:=(hX1.cell 14);have p5:=(hX1.cell 15);have p6:=(hX1.cell 16)
 have p7:=(hX1.cell 17);have p8:=(hX1.cell 18);have p9:=(hX1.cell 19);have p10:=(hX1.cell 20);have p11:=(hX1.cell 21);have p12:=(hX1.cell 22);have p13:=(hX1.cell 23);have p14:=(hX1.cell 24);simp only[List.getElem?_cons_zero,List.getElem?_cons_succ]at y0 y1 y2 y3 y4 y5 y6 y7 y8 y9 k0 k1 k2 k3 k4 k5 k6 k7 k8 k9 p0 p1 p2 p3 p4 p5 p6 p7 p8 p9 p10 p11 p12 p13 p14;have b1:=hO.cell 1
 have b2:=hO.cell 2;simp only[List.getElem?_cons_zero,List.getElem?_cons_succ]at b1 b2;have hz8:=hZ;unfold st0 at hz8;obtain⟨z0,z1,z2,z3,z4,z5,z6,z7,z8,z9⟩:=hz8.c10;clear hz8;have HSS:=hid (show∀w':World,Keeps (· <W1.heap.size) W1 w'→(e35_10 w' X (.slice CA cn cc) (.slice TA tn tc) (I wt) (J wv) (I u0) (I u1) (I u2) (I u3) (I u4) (I u5) (e0_25 w' X (I docs) (I terms) (I q0) (I q1) (I q2) (I q3) (I book) (I room) (kk) (bb) (I p.base.a0) (I p.base.a1) (I p.base.a2) (I p.base.a3) (I p.base.a4) (I p.base.a5) (I p.size.a0) (I p.size.a1) (I p.size.a2) (I p.size.a3) (I p.size.a4) (I p.size.a5) (I p.cells) (I p.slots) (I p.live) (w'.cell? ⟨B,1,none⟩=some (J id)∧w'.cell? ⟨B,2,none⟩=some (.slice FA fn fc))))∧(d0_10 w' (B+1) (.slice none 0 0) (.slice none 0 0) (I 0) (J 0) (I 0) (I 0) (I 0) (I 0) (I 0) (I 0))∧(w'.frozen? ⟨B+1,0,none⟩=false∧w'.frozen? ⟨B+1,1,none⟩=false∧w'.frozen? ⟨B+1,2,none⟩=false∧w'.frozen? ⟨B+1,3,none⟩=false∧w'.frozen? ⟨B+1,4,none⟩=false∧w'.frozen? ⟨B+1,5,none⟩=false∧w'.frozen? ⟨B+1,6,none⟩=false∧w'.frozen? ⟨B+1,7,none⟩=false∧w'.frozen? ⟨B+1,8,none⟩=false∧w'.frozen? ⟨B+1,9,none⟩=false)from by
  intro w' k;have e0:=fun i=>World.cell?_of_block (a:=⟨X,i,none⟩) (k.block X hXw);have e1:=fun i=>World.cell?_of_block (a:=⟨B,i,none⟩) (k.block B hl0);have e2:=fun i=>World.cell?_of_block (a:=⟨B+1,i,none⟩) (k.block (B+1) hl1);exact⟨⟨(e0 _).trans y0,(e0 _).trans y1,(e0 _).trans y2,(e0 _).trans y3,(e0 _).trans y4,(e0 _).trans y5,(e0 _).trans y6,(e0 _).trans y7,(e0 _).trans y8,(e0 _).trans y9,(e0 _).trans k0,(e0 _).trans k1,(e0 _).trans k2,(e0 _).trans k3,(e0 _).trans k4,(e0 _).trans k5,(e0 _).trans k6,(e0 _).trans k7,(e0 _).trans k8,(e0 _).trans k9,(e0 _).trans p0,(e0 _).trans p1,(e0 _).trans p2,(e0 _).trans p3,(e0 _).trans p4,(e0 _).trans p5,(e0 _).trans p6,(e0 _).trans p7,(e0 _).trans p8,(e0 _).trans p9,(e0 _).trans p10,(e0 _).trans p11,(e0 _).trans p12,(e0 _).trans p13,(e0 _).trans p14,(e1 _).trans b1,(e1 _).trans b2⟩,⟨(e2 _).trans z0,(e2 _).trans z1,(e2 _).trans z2,(e2 _).trans z3,(e2 _).trans z4,(e2 _).trans z5,(e2 _).trans z6,(e2 _).trans z7,(e2 _).trans z8,(e2 _).trans z9⟩,(hz9.keep k hl1).free 0,(hz9.keep k hl1).free 1,(hz9.keep k hl1).free 2,(hz9.keep k hl1).free 3,(hz9.keep k hl1).free 4,(hz9.keep k hl1).free 5,(hz9.keep k hl1).free 6,(hz9.keep k hl1).free 7,(hz9.keep k hl1).free 8,(hz9.keep k hl1).free 9⟩)
 have HTB:=hid (show∀wa,Keeps (· <W1.heap.size) W1 wa→Z 38 #[.agg #[.slice CA cn cc,.slice TA tn tc,I wt,J wv,I u0,I u1,I u2,I u3,I u4,I u5],.agg #[I docs,I terms,I q0,I q1,I q2,I q3,I book,I room,kk,bb],.agg #[I p.base.a0,I p.base.a1,I p.base.a2,I p.base.a3,I p.base.a4,I p.base.a5,I p.size.a0,I p.size.a1,I p.size.a2,I p.size.a3,I p.size.a4,I p.size.a5,I p.cells,I p.slots,I p.live],.agg #[J id,.slice FA fn fc]] wa fun e w'=>∃A3 c3 A4 c4,e= .returned (.tuple #[I er,.agg #[.slice A3 cs'.length c3,.slice A4 segs'.length c4,I t',J v',I x0,I x1,I x2,I x3,I x4,I x5]])∧Hid (SlAt w' (fun b=>K b∨(B≤b∧b<w'.heap.size∧b≠B∧b≠B+1)) 1 (.slice A3 cs'.length c3) cs'.length (cs'.map (Value.int .u32))∧SlAt w' (fun b=>K b∨(B≤b∧b<w'.heap.size∧b≠B∧b≠B+1)) 3 (.slice A4 segs'.length c4) segs'.length (segs'.flatMap SegM.cells)∧Keeps (· <W1.heap.size) W1 w')∧((e35_10 w' X (.slice CA cn cc) (.slice TA tn tc) (I wt) (J wv) (I u0) (I u1) (I u2) (I u3) (I u4) (I u5) (e0_25 w' X (I docs) (I terms) (I q0) (I q1) (I q2) (I q3) (I book) (I room) (kk) (bb) (I p.base.a0) (I p.base.a1) (I p.base.a2) (I p.base.a3) (I p.base.a4) (I p.base.a5) (I p.size.a0) (I p.size.a1) (I p.size.a2) (I p.size.a3) (I p.size.a4) (I p.size.a5) (I p.cells) (I p.slots) (I p.live) (w'.cell? ⟨B,1,none⟩=some (J id)∧w'.cell? ⟨B,2,none⟩=some (.slice FA fn fc))))∧(d0_10 w' (B+1) (.slice none 0 0) (.slice none 0 0) (I 0) (J 0) (I 0) (I 0) (I 0) (I 0) (I 0) (I 0))∧(w'.frozen? ⟨B+1,0,none⟩=false∧w'.frozen? ⟨B+1,1,none⟩=false∧w'.frozen? ⟨B+1,2,none⟩=false∧w'.frozen? ⟨B+1,3,none⟩=false∧w'.frozen? ⟨B+1,4,none⟩=false∧w'.frozen? ⟨B+1,5,none⟩=false∧w'.frozen? ⟨B+1,6,none⟩=false∧w'.frozen? ⟨B+1,7,none⟩=false∧w'.frozen? ⟨B+1,8,none⟩=false∧w'.frozen? ⟨B+1,9,none⟩=false))from fun wa h1=>by
  refine(HREF.out wa h1).mono ?_;rintro e w' ⟨cv,sv,rfl,g1,g2,g3⟩;have hk9:=h1.trans (g3.mono fun b hb=>by have:=h1.size;omega)
  have hge9:=h1.size;have hg9:∀b,(K b∨(wa.heap.size≤b∧b<w'.heap.size))→(K b∨(B≤b∧b<w'.heap.size∧b≠B∧b≠B+1)):=fun b hb=>hb.imp (fun h=>h) fun h=>⟨by omega,h.2,by omega,by omega⟩
  have g1:=g1.mono hg9;have g2:=g2.mono hg9;have g1':=g1;have g2':=g2;obtain⟨A3,c3,rfl,_⟩:=g1';obtain⟨A4,c4,rfl,_⟩:=g2';exact⟨A3,c3,A4,c4,rfl,⟨g1,g2,hk9⟩,HSS.out _ hk9⟩)
 have hXB:¬X=B+1:=by omega
 have hXB2:¬B+1=X:=by omega
 clear z0 z1 z2 z3 z4 z5 z6 z7 z8 z9;have HX1:=hid hX1;have HO:=hid hO;have HZ:=hid hZ;have Hk:=hid hk;clear hX1 hO hZ hk;clear hz9
 go_upto_region 3 with fail
 go_cut[4]from 18 to 34 (fun a wx=>∃A3 c3 A4 c4,a=I er∧Blk wx (B+1) [.slice A3 cs'.length c3,.slice A4 segs'.length c4,I t',J v',I x0,I x1,I x2,I x3,I x4,I x5]∧SlAt wx (fun b=>K b∨(B≤b∧b<wx.heap.size∧b≠B∧b≠B+1)) 1 (.slice A3 cs'.length c3) cs'.length (cs'.map (Value.int .u32))∧SlAt wx (fun b=>K b∨(B≤b∧b<wx.heap.size∧b≠B∧b≠B+1)) 3 (.slice A4 segs'.length c4) segs'.length (segs'.flatMap SegM.cells)∧Keeps (· <B) w wx)
 case first=>
  go_region_held3 (fun w'=>(e35_10 w' X (.slice CA cn cc) (.slice TA tn tc) (I wt) (J wv) (I u0) (I u1) (I u2) (I u3) (I u4) (I u5) (e0_25 w' X (I docs) (I terms) (I q0) (I q1) (I q2) (I q3) (I book) (I room) (kk) (bb) (I p.base.a0) (I p.base.a1) (I p.base.a2) (I p.base.a3) (I p.base.a4) (I p.base.a5) (I p.size.a0) (I p.size.a1) (I p.size.a2) (I p.size.a3) (I p.size.a4) (I p.size.a5) (I p.cells) (I p.slots) (I p.live) (w'.cell? ⟨B,1,none⟩=some (J id)∧w'.cell? ⟨B,2,none⟩=some (.slice FA fn fc))))) (go_keep)
   (first|(go_at_call 38;refine(HTB.out _ ?_).mono ?_;(focus((repeat(first|with_reducible exact Keeps.refl _ _|with_reducible refine Keeps.drew ?_|with_reducible refine Keeps.drewN ?_ _|with_reducible refine Keeps.alloc ?_ ?_ _));all_goals(intro b hb;exact hb)));rintro e wb ⟨A3,c3,A4,c4,rfl,HBW,⟨q0,q1,q2,q3,q4,q5,q6,q7,q8,q9,q10,q11,q12,q13,q14,q15,q16,q17,q18,q19,q20,q21,q22,q23,q24,q25,q26,q27,q28,q29,q30,q31,q32,q33,q34,q35,q36⟩,⟨z0,z1,z2,z3,z4,z5,z6,z7,z8,z9⟩,⟨r0,r1,r2,r3,r4,r5,r6,r7,r8,r9⟩⟩))
  all_goals
   go_wp2_with fail
   go_meet
   case rel=>
    exact c30
 case rest=>
  obtain⟨A3,c3,A4,c4,rfl,hE,g1,g2,hk9⟩:=hcut;obtain⟨d0,d1,d2,d3,d4,d5,d6,d7,d8,d9⟩:=hE.c10;clear hE HX1 HO HZ Hk HSS HTB HREF;have HG1:=hid g1;have HG2:=hid g2;have HK9:=hid hk9;clear g1 g2 hk9
  iterate 2 (first|go_values|go_skip|go_guarded|go_step|go_upon|go_back)
  exact c71):p:=h
theorem c296 (h:p:=by
 have H11:=hid h11;clear h11;have hm:foldM r=r+1:=by have q0:=H0.out ;have q1:=H1.out ;have q2:=H2.out ;have q3:=H3.out ;have q4:=H4.out ;have q5:=H5.out ;have q6:=H6.out ;have q7:=H7.out ;have q8:=H8.out ;have q9:=H9.out ;have q10:=H10.out ;have q11:=H11.out ;rw[foldM_ifs] ;omega
 clear H0 H1 H2 H3 H4 H5 H6 H7 H8 H9 H10 H11;exact zz47.down):p:=h
theorem c297 (h:p:=by
 exact c11):p:=h
theorem c298 (h:p:=by
 exact c11):p:=h
theorem c299 (h:p:=by
 go_wp2_with (at_lookup;refine wpList_lookup_own_int _ rfl _ _ 77 rfl 32 3 .i64 lawU Tryz.underlying77 Tryz.underlying3 (zeroI _) mB cn D rfl HM2.out _ (idLit id) rfl (keyU Hi0.out) ?_;intro cv hat hwc;have hat2:=Hval.out.symm.trans hat;unfold dI at hat2;injection hat2 with hat2;injection hat2 with _ hat2;subst hat2;clear hwc)
 clear hat
 go_wp2_with fail
 exact zz48.down):p:=h
theorem c300 (h:p:=by
 go_meet
 exact⟨W',6,cs',rfl,hid ⟨rfl,H1.out⟩,hid (fun h=>absurd h (by decide))⟩):p:=h
theorem c301 (h:p:=by
 go_meet
 exact⟨W',5,cs',rfl,hid ⟨rfl,H1.out⟩,hid (fun h=>absurd h (by decide))⟩):p:=h
theorem c302 (h:p:=by
 go_meet
 exact⟨W',3,cs',rfl,hid ⟨rfl,H1.out⟩,hid (fun h=>absurd h (by decide))⟩):p:=h
theorem c303 (h:p:=by
 go_meet
 exact⟨W',0,cs',rfl,hid ⟨rfl,H1.out⟩,hid (fun _=>⟨hnin.out,h3.out⟩)⟩):p:=h
theorem c304 (h:p:=by
 have H10:=hid h10;clear h10;have hm:foldM r=r+1:=by have q0:=H0.out ;have q1:=H1.out ;have q2:=H2.out ;have q3:=H3.out ;have q4:=H4.out ;have q5:=H5.out ;have q6:=H6.out ;have q7:=H7.out ;have q8:=H8.out ;have q9:=H9.out ;have q10:=H10.out ;rw[foldM_ifs] ;omega
 clear H0 H1 H2 H3 H4 H5 H6 H7 H8 H9 H10;exact zz49.down):p:=h
theorem c305 (h:p:=by
 exact c11):p:=h
theorem c306 (h:p:=by
 exact c11):p:=h
theorem c307 (h:p:=by
 have a0:=(World.cell?_of_block (a:=⟨b0,o0+i*3+0,none⟩) (HK.out.block b0 hh0)).trans (g1 0 _ rfl);have a1:=(World.cell?_of_block (a:=⟨b0,o0+i*3+1,none⟩) (HK.out.block b0 hh0)).trans (g1 1 _ rfl);have a2:=(World.cell?_of_block (a:=⟨b0,o0+i*3+2,none⟩) (HK.out.block b0 hh0)).trans (g1 2 _ rfl);exact zz50.down):p:=h
theorem c308 (h:p:=by
 simp only[Nat.add_zero]at a0;have hBase:=fun W=>ref12_base x W (by unfold Small;omega)
 have hfr:=tfindL_range cs x.base id x.docs 0;have hFind:=fun W hk=>Hfind.out W hk x.base x.docs hbs x2;obtain⟨xa,xd,xs⟩:=x;dsimp only at a0 a1 a2 hBase hFind hst hfr x0 x1 x2;generalize SegM.base ⟨xa,xd,xs⟩=bs at*;generalize (tfindL cs bs id xd 0)=fr at*;obtain⟨fv,fs⟩:=fr;dsimp only at hst hfr hFind;obtain⟨f0,f1⟩:=hfr;obtain⟨c0,c1⟩:=HS.out.c2;clear g1 hx;have Hst:=hid hst
 have HBase:=hid hBase;have HFind:=hid hFind;have Hbs:=hid hbs;clear hst hBase hFind hbs
 go_upto_region 5 with fail
 have hl0:=HS.out.lt;have hK1:Keeps (· <w.heap.size) w (wr.alloc (.cells #[I xa,I xd,.bool xs] 65)):=HK.out.alloc (fun b hb=>Nat.lt_of_lt_of_le hb HK.out.size) _;have hS1:=HS.out.alloc (.cells #[I xa,I xd,.bool xs] 65);have hX1:=Blk.new wr [I xa,I xd,.bool xs] 65;generalize wr.heap.size=xb at*;generalize wr.alloc (.cells #[I xa,I xd,.bool xs] 65)=W1 at*;have y0:=hX1.cell 0
 have y1:=hX1.cell 1;have y2:=hX1.cell 2;have z0:=hS1.cell 0;simp only[List.getElem?_cons_zero,List.getElem?_cons_succ]at y0 y1 y2 z0;have hl1:=hX1.lt;have hl2:=hS1.lt;have q0:=fun q:KC (· <W1.heap.size) W1=>q.cell hl1 y0;have q1:=fun q:KC (· <W1.heap.size) W1=>q.cell hl1 y1;have q2:=fun q:KC (· <W1.heap.size) W1=>q.cell hl1 y2;have q3:=fun q:KC (· <W1.heap.size) W1=>q.cell hl2 z0
 have HB1:=hid (fun q:KC (· <W1.heap.size) W1=>q.calls ((HBase.out q.w).mono fun e w' h=>⟨h.1,h.2.mono fun b hb=>Nat.lt_of_lt_of_le hb q.k.size⟩));have HF1:=hid (fun q:KC (· <W1.heap.size) W1=>q.calls ((HFind.out q.w (hK1.trans (q.k.mono fun b hb=>Nat.lt_of_lt_of_le hb hK1.size))).mono fun e w' h=>⟨h.1,h.2.mono fun b hb=>Nat.lt_of_lt_of_le hb q.k.size⟩));clear y0 y1 y2 z0 hl1 hX1 a0 a1 a2 c0 c1
 have HK1:=hid hK1;have HS1:=hid hS1;clear hK1 hS1;refine wp_region_kc (· <W1.heap.size) (by kernel_rfl) (by kernel_rfl) ?_
 repeat(go_big_quiet_step (first|exact HB1.out _|exact HF1.out _))
 refine wpQuiet_nil ?_;rintro w5 ⟨⟨_,hk5⟩,rfl⟩;have hK5:Keeps (· <w.heap.size) w w5:=HK1.out.trans (hk5.mono fun b hb=>Nat.lt_of_lt_of_le hb HK1.out.size);have hS5:=HS1.out.keep hk5 hl2;clear q0 q1 q2 q3 HB1 HF1 HK1 HS1 hk5 hl2;have HK5:=hid hK5;have HS5:=hid hS5;clear hK5 hS5
 by_cases hfv:0≤fv
 ·have hres:=Hst.out;rw[if_pos hfv]at hres;have hfd:decide (fv≥0)=true:=decide_eq_true hfv;clear Hst;have Hres:=hid hres;clear hres
  go_wp2_with fail
  exact hR'.out _ _ ⟨by first|(rw[Hres.out];done)|(rw[Hres.out];rfl),HK5.out⟩
 ·have hres:=Hst.out;rw[if_neg hfv]at hres;have hfd:decide (fv≥0)=false:=decide_eq_false hfv;clear Hst;have Hres:=hid hres;clear hres
  go_wp2_with fail
  go_roundw
  case rel=>exact⟨i+1,by go_num,by omega,Hres,HK5,HS5⟩
  case measure=>exact msA):p:=h
theorem c309 (h:p:=by
 have c0:=(World.cell?_of_block (a:=⟨b2,o2+i*3+0,none⟩) (HK.out.block b2 hh2)).trans (g2 0 _ rfl);have c1:=(World.cell?_of_block (a:=⟨b2,o2+i*3+1,none⟩) (HK.out.block b2 hh2)).trans (g2 1 _ rfl);have c2:=(World.cell?_of_block (a:=⟨b2,o2+i*3+2,none⟩) (HK.out.block b2 hh2)).trans (g2 2 _ rfl);simp only[Nat.add_zero]at a0 c0;obtain⟨xa,xd,xs⟩:=x;dsimp only at a0 a1 a2 c0 c1 c2
 have y0:=HA.out.cell 0;have z0:=HB.out.cell 0;simp only[List.getElem?_cons_zero]at y0 z0;clear g1 g2 hx
 go_upto_region 6 with fail
 go_quiet (fail)
 go_wp2_with fail
 generalize nq=nB at*
 go_roundw
 case rel=>exact⟨i+1,by go_num,by omega,hid (HA.out.drewN _),hid (HB.out.drewN _),hid (HK.out.drewN _)⟩
 case measure=>exact msA):p:=h
theorem c310 (h:p:=by
 have HR:=hid (show z+256=X+256*((i+1:Nat):Int)∧∀j:Nat,j<i+1→¬(X+256*(j:Int)≤a∧a<X+256*(j:Int)+256)from⟨by omega,fun j hj hh=>by
  by_cases e:j<i
  ·exact hsl j e hh
  ·obtain rfl:j=i:=by omega
   omega⟩)
 have HBK:=hid hblk;have Hkp:=hid hkp;clear hkp;exact zz51.down):p:=h
theorem c311 (h:p:=by
 clear hz hblk hsl h2
 go_wp2_with fail
 go_quiet (fail)
 go_wp2_with fail
 refine(slab_at3 _).mono ?_;rintro e w2 ⟨rfl,rfl⟩;exact c420):p:=h
theorem c312 (h:p:=by
 clear hz hblk hsl h1
 go_wp2_with fail
 go_quiet (fail)
 exact c420):p:=h
theorem c313 (h:p:=by
 have HR:=hid (show z+16=X+16*((i+1:Nat):Int)∧∀j:Nat,j<i+1→¬(X+16*(j:Int)≤a∧a<X+16*(j:Int)+16)from⟨by omega,fun j hj hh=>by
  by_cases e:j<i
  ·exact hsl j e hh
  ·obtain rfl:j=i:=by omega
   omega⟩)
 have HBK:=hid hblk;have Hkp:=hid hkp;clear hkp;exact zz52.down):p:=h
theorem c314 (h:p:=by
 clear hz hblk hsl h2
 go_wp2_with fail
 go_quiet (fail)
 go_wp2_with fail
 refine(slab_at1 _).mono ?_;rintro e w2 ⟨rfl,rfl⟩;exact c421):p:=h
theorem c315 (h:p:=by
 clear hz hblk hsl h1
 go_wp2_with fail
 go_quiet (fail)
 exact c421):p:=h
theorem c316 (h:p:=by
 have HR:=hid (show z+64=X+64*((i+1:Nat):Int)∧∀j:Nat,j<i+1→¬(X+64*(j:Int)≤a∧a<X+64*(j:Int)+64)from⟨by omega,fun j hj hh=>by
  by_cases e:j<i
  ·exact hsl j e hh
  ·obtain rfl:j=i:=by omega
   omega⟩)
 have HBK:=hid hblk;have Hkp:=hid hkp;clear hkp;exact zz53.down):p:=h
theorem c317 (h:p:=by
 clear hz hblk hsl h2
 go_wp2_with fail
 go_quiet (fail)
 go_wp2_with fail
 refine(slab_at2 _).mono ?_;rintro e w2 ⟨rfl,rfl⟩;exact c422):p:=h
theorem c318 (h:p:=by
 clear hz hblk hsl h1
 go_wp2_with fail
 go_quiet (fail)
 exact c422):p:=h
theorem c319 (h:p:=by
 have HR:=hid (show z+4=X+4*((i+1:Nat):Int)∧∀j:Nat,j<i+1→¬(X+4*(j:Int)≤a∧a<X+4*(j:Int)+4)from⟨by omega,fun j hj hh=>by
  by_cases e:j<i
  ·exact hsl j e hh
  ·obtain rfl:j=i:=by omega
   omega⟩)
 have HBK:=hid hblk;have Hkp:=hid hkp;clear hkp;exact zz54.down):p:=h
theorem c320 (h:p:=by
 clear hz hblk hsl h2
 go_wp2_with fail
 go_quiet (fail)
 go_wp2_with fail
 refine(slab_at0 _).mono ?_;rintro e w2 ⟨rfl,rfl⟩;exact c423):p:=h
theorem c321 (h:p:=by
 clear hz hblk hsl h1
 go_wp2_with fail
 go_quiet (fail)
 exact c423):p:=h
theorem c322 (h:p:=by
 clear hw hcl hr hd HE;have Hex:=hid hex;have HTr:=hid hTr;clear hex hTr
 go_wp2_with fail
 refine(fold_class r (by omega) wr HTr.out).mono ?_
 rintro e w2 ⟨rfl,hk⟩;have hR2:=HR.out.calls hk;clear HR hk;have HR2:=hid hR2;clear hR2
 go_wp2_with fail
 exact zz55.down):p:=h
theorem c323 (h:p:=by
 go_roundw
 case rel=>exact⟨i+1,place,acc,A,cp,rfl,rfl,by go_num,by omega,by omega,by omega,HR2,Hex⟩
 case measure=>exact msA):p:=h
theorem c324 (h:p:=by
 go_loopw[6,7] (fun jv wv ws=>∃(j:Nat) (wd:List Int) (A2:Option Addr) (c2:Nat),jv=I (j:Int)∧wv= .slice A2 wd.length c2∧i≤j∧j≤rs.length∧wd.length≤j∧Hid (NewRow w2 ws 21 (Value.int .i32) (.slice A2 wd.length c2) wd)∧Hid (WdAt rs i j wd)) (fun jv _ _=>rs.length-(intOf jv).toNat)
 case atStart=>exact⟨i,[],none,0,rfl,rfl,Nat.le_refl _,by omega,Nat.zero_le _,hid ⟨⟨rfl,Or.inl ⟨rfl,rfl⟩⟩,Keeps.refl _ _⟩,hid (WdAt.start _ _)⟩
 case round=>
  rename World=>ws
  obtain⟨j,wd,A2,c2,rfl,rfl,hij,hj,hwj,HW,HD⟩:=hrel;have hT2:=(HT1.out.keep HR2.out.2).keep HW.out.2;have hw12:=HR2.out.2.size;have hw23:=HW.out.2.size;have hS2:=(HS.out.keep HR2.out.2 (fun b hb=>hb.2)).keep HW.out.2 (fun b hb=>Nat.lt_of_lt_of_le hb.2 hw12)
  by_cases hlt2:j<rs.length
  ·have hltI2:(j:Int)<(rs.length:Int):=by omega
   obtain⟨r2,hr2⟩:∃r,rs[j]? =some r:=⟨_,List.getElem?_eq_getElem hlt2⟩;have hrr2:=Hrb.out r2 (List.mem_of_getElem? hr2);obtain⟨b2,off2,c92,hv2,hb2,hc2⟩:=hS2.get j r2 hr2;injection hv2 with hA2 h22 h32
   cases hA2
   subst h32
   by_cases hcl2:classM r2=0
   ·have hcb2:(classM r2==0)=true:=by simp[hcl2]
    have hcb3:(!(classM r2==0))=false:=by simp[hcl2]
    have hst:=HD.out.stop (fun r h=>by rw[hr2]at h;cases h;unfold isW;simp[hcl2])
    have Hst:=hid hst;have HT2:=hid hT2;clear hst hT2;clear hcl2 hr2 hS2 HD
    go_wp2_with fail
    refine(fold_class r2 (by omega) ws HT2.out).mono ?_
    rintro e w3 ⟨rfl,hk⟩;have HW3:=hid ((⟨ownB_keepS HW.out.1 hk,HW.out.2.trans (hk.mono fun b hb=>Nat.lt_of_lt_of_le hb hw23)⟩:NewRow w2 w3 21 (Value.int .i32) (.slice A2 wd.length c2) wd));clear hk HW;exact c13
   ·have hcb2:(classM r2==0)=false:=by simpa using hcl2
    have hwr:isW r2=true:=by unfold isW;simp[hcl2]
    have hds:=HD.out.step hr2 hwr hij;have Hds:=hid hds;have HT2:=hid hT2;clear hds hT2;clear hwr hcl2 hr2 hS2 HD
    go_wp2_with fail
    refine(fold_class r2 (by omega) ws HT2.out).mono ?_
    rintro e w3 ⟨rfl,hk⟩;have hc3:=(World.cell?_of_block (a:=⟨b,off+j,none⟩) (hk.block b (by omega))).trans hc2
    have hT3:=HT2.out.keep hk;have HW3:=hid ((⟨ownB_keepS HW.out.1 hk,HW.out.2.trans (hk.mono fun b hb=>Nat.lt_of_lt_of_le hb hw23)⟩:NewRow w2 w3 21 (Value.int .i32) (.slice A2 wd.length c2) wd));have hk3:=hk.size;clear hk HW HT2;have HT3:=hid hT3;clear hT3
    go_wp2_with fail
    refine(fold_fold r2 (by omega) w3 HT3.out).mono ?_
    rintro e w4 ⟨rfl,hk4⟩;have HW4:=hid ((⟨ownB_keepS HW3.out.1 hk4,HW3.out.2.trans (hk4.mono fun b hb=>by omega)⟩:NewRow w2 w4 21 (Value.int .i32) (.slice A2 wd.length c2) wd))
    have hk5:=HW4.out.2.size;clear HW3 hk4;generalize foldM r2=fr at*;obtain⟨i0,hi,hz0,hz1,hz2⟩:=info_partsF Tryz.infoI32
    go_wp2_with (at_builtin;go_must (refine wpList_append_own_at _ rfl _ _ 179 rfl (w2.heap.size) 21 i0 (.int .i32 0) 1 4 Tryz.underlying179 hi hz0 hz1 hz2 rfl (by decide) (.slice A2 wd.length c2) wd.length (wd.map (Value.int .i32)) rfl (ownB_keepS HW4.out.1 ((Keeps.refl _ _).alloc (fun b hb=>hb) _)) ⟨w4.heap.size,0,none⟩ 1 1 [.int .i32 fr] rfl (by simp) (own_news (own_lit w4 0 _ _ 1 1 [.int .i32 fr] rfl rfl (by decide) (Nat.zero_le _))) ?_ ?_ ?_ ?_ ?_))
    all_goals(try(first|with_reducible exact one1 _ _|with_reducible exact one2 _ _ _|with_reducible exact one4 _ _ _ _ _|with_reducible exact oneM _ _|exact rfl|exact fun _ _=>rfl|exact⟨rfl,rfl⟩|exact⟨rfl,rfl,rfl⟩|exact⟨rfl,rfl,rfl,rfl⟩|(unfold maxLen;omega)|omega|(simp;omega)|(simp;done)))
    (try clear hi)
    (try clear hz0)
    (try clear hz1)
    (try clear hz2)
    intro v' w6 hown hgr _ hf;have hN:=NewRow.push HW4.out hown hgr;obtain⟨A',cp',rfl⟩:=ownB_form hown;clear hown hgr hf HW4;have HN:=hid hN;clear hN
    go_wp2_with fail
    go_roundw
    case rel=>exact⟨j+1,wd++[fr],A',cp',by go_num,by simp,by omega,by omega,by simp;omega,by simpa using HN,Hds⟩
    case measure=>exact msA
  ·have hst:=HD.out.stop (fun r h=>by rw[List.getElem?_eq_none (by omega)]at h;cases h)
   have hltI2:¬(j:Int)<(rs.length:Int):=by omega
   obtain⟨w3,rfl⟩:∃x,x=ws:=⟨_,rfl⟩;have HW3:=HW;clear HW HD hS2 hT2;have Hst:=hid hst;clear hst;exact c13):p:=h
theorem c325 (h:p:=by
 show(if(s.load (s0+(((h+i)%n:Nat):Int))).2.isOff=true then Tree.ret (0,-1)else if(s.load (s0+(((h+i)%n:Nat):Int))).1=0 then _ else _:Tree (Int×Int)).exec (s.load (s0+(((h+i)%n:Nat):Int))).2=_
 exact zz56.down):p:=h
theorem c326 (h:p:=by
 rw[e,if_neg (by rw[ho];decide),if_pos rfl];rfl):p:=h
theorem c327 (h:p:=by
 rw[e,if_neg (by rw[ho];decide),if_neg hx]
 show(if(s1.load (x+1)).1≠len then findD s0 n h C len f (i+1)else _:Tree (Int×Int)).exec (s1.load (x+1)).2=_
 rw[e2,if_pos hy]):p:=h
theorem c328 (h:p:=by
 rw[e,if_neg (by rw[ho];decide),if_neg hx]
 show(if(s1.load (x+1)).1≠len then findD s0 n h C len f (i+1)else(cmpD x C 0).bind (contD s0 n h C len f i x):Tree (Int×Int)).exec (s1.load (x+1)).2=_
 rw[e2,if_neg (by simp)]):p:=h
theorem c329 (h:p:=by
 obtain⟨z0,z1,z2,z3,z4,z5⟩:=hC2.c6;have f2:=hC2.free
 go_wp2_with fail
 refine wp_region_still_tail 9 (by kernel_rfl) (by kernel_rfl) ?_
 simp only[List.take_succ_cons,List.take_zero,List.drop_succ_cons,List.drop_zero];exact zz57.down):p:=h
theorem c330 (h:p:=by
 have hw1:IntKind.i64.wrap (s0*4)=s0*4:=IntWalk.i64_in _ (by omega)
 repeat(first|still_step|still_call (slab_at0 _))
 refine wpStill_nil ?_;change wpList _ _ _ _ _ wr.drew
 go_wp2_with fail
 go_roundw
 case rel=>
  refine⟨1,by omega,rfl,congrArg (Value.int .i64) (by simp only[baseC,szC]<;>omega),?_,?_,?_,?_⟩
  ·exact bA
  ·exact bA
  ·have hx:=hC2.set 0 (I (s0*4));exact c60
  ·exact kA
 case measure=>simp[intOf]):p:=h
theorem c331 (h:p:=by
 have hw1:IntKind.i64.wrap (s1*16)=s1*16:=IntWalk.i64_in _ (by omega)
 repeat(first|still_step|still_call (slab_at1 _))
 refine wpStill_nil ?_;change wpList _ _ _ _ _ wr.drew
 go_wp2_with fail
 go_roundw
 case rel=>
  refine⟨2,by omega,rfl,congrArg (Value.int .i64) (by simp only[baseC,szC]<;>omega),?_,?_,?_,?_⟩
  ·exact bA
  ·exact bA
  ·have hx:=hC2.set 1 (I (s1*16));exact c60
  ·exact kA
 case measure=>simp[intOf]):p:=h
theorem c332 (h:p:=by
 have hw1:IntKind.i64.wrap (s2*64)=s2*64:=IntWalk.i64_in _ (by omega)
 repeat(first|still_step|still_call (slab_at2 _))
 refine wpStill_nil ?_;change wpList _ _ _ _ _ wr.drew
 go_wp2_with fail
 go_roundw
 case rel=>
  refine⟨3,by omega,rfl,congrArg (Value.int .i64) (by simp only[baseC,szC]<;>omega),?_,?_,?_,?_⟩
  ·exact bA
  ·exact bA
  ·have hx:=hC2.set 2 (I (s2*64));exact c60
  ·exact kA
 case measure=>simp[intOf]):p:=h
theorem c333 (h:p:=by
 have hw1:IntKind.i64.wrap (s3*256)=s3*256:=IntWalk.i64_in _ (by omega)
 repeat(first|still_step|still_call (slab_at3 _))
 refine wpStill_nil ?_;change wpList _ _ _ _ _ wr.drew
 go_wp2_with fail
 go_roundw
 case rel=>
  refine⟨4,by omega,rfl,congrArg (Value.int .i64) (by simp only[baseC,szC]<;>omega),?_,?_,?_,?_⟩
  ·exact bA
  ·exact bA
  ·have hx:=hC2.set 3 (I (s3*256));exact c60
  ·exact kA
 case measure=>simp[intOf]):p:=h
theorem c334 (h:p:=by
 have zz148:=PLift.up @c702;exact c701):p:=h
theorem c335 (h:p:=by
 go_roundw
 case rel=>exact⟨1,rfl,by decide,hid Hst.out.drew,hid Hnb9.out.drew,hid Hkk.out.drew,by simpa using hsx⟩
 case measure=>exact msA):p:=h
theorem c336 (h:p:=by
 go_roundw
 case rel=>exact⟨2,rfl,by decide,hid Hst.out.drew,hid Hnb9.out.drew,hid Hkk.out.drew,by simpa using hsx⟩
 case measure=>exact msA):p:=h
theorem c337 (h:p:=by
 go_roundw
 case rel=>exact⟨3,rfl,by decide,hid Hst.out.drew,hid Hnb9.out.drew,hid Hkk.out.drew,by simpa using hsx⟩
 case measure=>exact msA):p:=h
theorem c338 (h:p:=by
 go_roundw
 case rel=>exact⟨4,rfl,by decide,hid Hst.out.drew,hid Hnb9.out.drew,hid Hkk.out.drew,by simpa using hsx⟩
 case measure=>exact msA):p:=h
theorem c339 (h:p:=by
 go_roundw
 case rel=>exact⟨5,rfl,by decide,hid Hst.out.drew,hid Hnb9.out.drew,hid Hkk.out.drew,by simpa using hsx⟩
 case measure=>exact msA):p:=h
theorem c340 (h:p:=by
 go_roundw
 case rel=>exact⟨6,rfl,by decide,hid Hst.out.drew,hid Hnb9.out.drew,hid Hkk.out.drew,by simpa using hsx⟩
 case measure=>exact msA):p:=h
theorem c341 (h:p:=by
 have hc1:=hD1.b1;unfold WrM.vals at hc1;dsimp only at hc1;obtain⟨y0,y1,y2,y3,y4,y5,y6,y7,y8⟩:=hc1.c9;have hz:=hD1.b2;unfold zer9 at hz;obtain⟨z0,z1,z2,z3,z4,z5,z6,z7,z8⟩:=hz.c9;have f:=hz.free;exact zz59.down):p:=h
theorem c342 (h:p:=by
 clear hc1 hz;have HD1:=hid hD1;have Hres:=hid hres;clear hD1 hres
 go_wp2_with fail
 obtain⟨hE,hrr,hkk⟩:=HD1.out.out;unfold WrM.vals at hE;dsimp only at hE hrr hkk;clear y0 y1 y2 y3 y4 y5 y6 y7 y8 z0 z1 z2 z3 z4 z5 z6 z7 z8 f;generalize (((((((((w1.setCell ⟨B+1+1,0,none⟩ (.slice A segs.length cp)).setCell ⟨B+1+1,1,none⟩ (I wt)).setCell ⟨B+1+1,2,none⟩ (J wv)).setCell ⟨B+1+1,3,none⟩ (I u0)).setCell ⟨B+1+1,4,none⟩ (I u1)).setCell ⟨B+1+1,5,none⟩ (I u2)).setCell ⟨B+1+1,6,none⟩ (I u3)).setCell ⟨B+1+1,7,none⟩ (I u4)).setCell ⟨B+1+1,8,none⟩ (I u5))=WZ at*
 obtain⟨d0,d1,d2,d3,d4,d5,d6,d7,d8⟩:=hE.c9;refine bodyPost_ret (v:= .tuple #[.agg #[.slice A segs.length cp,I wt,J wv,I u0,I u1,I u2,I u3,I u4,I u5],I 7]) ?_ rfl ?_
 ·simp[results,Tryz.results35,go_sem,d0,d1,d2,d3,d4,d5,d6,d7,d8]
 ·refine hR'.out _ _ ?_;rw[Hres.out];exact⟨rfl,hrr,hkk⟩):p:=h
theorem c343 (h:p:=by
 clear hc1 hz g1 hx hblk Hfd Hres2;unfold RowM.vals at hrow;dsimp only at hrow;have HD1:=hid hD1;have Hres:=hid hres;have HBase:=hid hBase;have Hrow:=hid hrow;have HpdS:=hid hpdS;have Hbs:=hid hbs;clear hD1 hres hBase hrow hpdS hbs
 go_wp2_with fail
 refine(HBase.out _).mono ?_;rintro e w2 ⟨rfl,hk2⟩;have hD2:=HD1.out.below hk2;clear hk2 HBase HD1 a0 a1 a2;have HD2:=hid hD2;clear hD2
 go_wp2_with fail
 refine(Hrow.out _ HD2.out.rm).mono ?_;rintro e w3 ⟨rfl,hr3,hk3⟩;have hD3:=HD2.out.keep hr3 hk3;have hD4:=hD3.below ((Keeps.refl (· <w3.heap.size) _).alloc (fun b hb=>hb) (.cells #[J rb,J ri,J rl,J rt] 113));have hrb:w3.heap.size≠B+1:=by have:=hD3.b1.lt;omega
 clear hr3 hk3 hD3 HD2 Hrow;have HD4:=hid hD4;clear hD4
 go_wp2_with fail
 refine(step_off HD4.out.rm).mono ?_;rintro e w5 ⟨rfl,rfl⟩;clear y0 y1 y2 y3 y4 y5 y6 y7 y8 z0 z1 z2 z3 z4 z5 z6 z7 z8 f;have hc1:=HD4.out.b1;unfold WrM.vals at hc1;dsimp only at hc1;obtain⟨y0,y1,y2,y3,y4,y5,y6,y7,y8⟩:=hc1.c9;have hz:=HD4.out.b2;unfold zer9 at hz;obtain⟨z0,z1,z2,z3,z4,z5,z6,z7,z8⟩:=hz.c9;have f:=hz.free;clear hc1 hz
 cases hoff:s2.isOff with
 |true=>
  have hres:res=((⟨segs,wt,wv,⟨u0,u1,u2,u3,u4,u5⟩⟩,7),s2):=by rw[Hres.out,if_pos (Or.inl hoff)];rfl
  clear hoff;exact c32
 |false=>
  by_cases hrt:rt=0
  ·subst hrt;have hres:res=((killT bs pd (wv+1)).bind fun _=> .store 1 (wv+1) (.ret (⟨segs,wt,wv+1,⟨u0,u1,u2,u3,u4,u5⟩⟩,0)):Tree (WrM×Int)).exec s2:=by rw[Hres.out,if_neg (by simp[hoff])]
   rw[Tree.exec_bind]at hres;have hw1:IntKind.u32.wrap (wv+1)=wv+1:=IntWalk.u32_in _ (by omega)
   have fv:=HD4.out.b1.free 2;have hD5:=HD4.out.ver (wv+1);dsimp only at hD5;have hkill:=fun W' (hR:RM W' (fun b=>K b∨(B≤b∧b<B+1+1+1)) r m c s2)=>table_kill hR bs pd (wv+1) Hbs.out HpdS.out (by unfold U32;omega)
   generalize (killT bs pd (wv+1)).exec s2=fk at*;obtain⟨⟨⟩,s3⟩:=fk;have hres:res=((⟨segs,wt,wv+1,⟨u0,u1,u2,u3,u4,u5⟩⟩,0),s3.store 1 (wv+1)):=hres;dsimp only at hkill;clear hoff;have Hres9:=hid hres;have HD5:=hid hD5;have Hkill:=hid hkill;clear hres hD5 hkill;clear Hres
   go_wp2_with fail
   refine(Hkill.out _ HD5.out.rm).mono ?_;rintro e w6 ⟨rfl,hr6,hk6⟩;have hD6:=HD5.out.keep hr6 hk6;clear hr6 hk6 HD5 Hkill HD4 y0 y1 y2 y3 y4 y5 y6 y7 y8 z0 z1 z2 z3 z4 z5 z6 z7 z8 f;have hc1:=hD6.b1;unfold WrM.vals at hc1;dsimp only at hc1;obtain⟨y0,y1,y2,y3,y4,y5,y6,y7,y8⟩:=hc1.c9;have hz:=hD6.b2;unfold zer9 at hz;obtain⟨z0,z1,z2,z3,z4,z5,z6,z7,z8⟩:=hz.c9;have f:=hz.free
   clear hc1 hz;have HD6:=hid hD6;clear hD6
   go_wp2_with fail
   refine(step_store HD6.out.rm 1 (wv+1) (by unfold U32;omega)).mono ?_
   rintro e w7 ⟨rfl,hr7,hk7⟩;have hD7:=HD6.out.keep hr7 hk7;clear hr7 hk7 HD6 y0 y1 y2 y3 y4 y5 y6 y7 y8 z0 z1 z2 z3 z4 z5 z6 z7 z8 f;have hc1:=hD7.b1;unfold WrM.vals at hc1;dsimp only at hc1;obtain⟨y0,y1,y2,y3,y4,y5,y6,y7,y8⟩:=hc1.c9;have hz:=hD7.b2;unfold zer9 at hz;obtain⟨z0,z1,z2,z3,z4,z5,z6,z7,z8⟩:=hz.c9;have f:=hz.free;clear hc1 hz;have HD7:=hid hD7;clear hD7
   go_wp2_with fail
   obtain⟨hE,hrr,hkk⟩:=HD7.out.out;unfold WrM.vals at hE;dsimp only at hE hrr hkk;clear y0 y1 y2 y3 y4 y5 y6 y7 y8 z0 z1 z2 z3 z4 z5 z6 z7 z8 f;generalize (((((((((w7.setCell ⟨B+1+1,0,none⟩ (.slice (some ⟨b0,o0,none⟩) segs.length cp)).setCell ⟨B+1+1,1,none⟩ (I wt)).setCell ⟨B+1+1,2,none⟩ (J (wv+1))).setCell ⟨B+1+1,3,none⟩ (I u0)).setCell ⟨B+1+1,4,none⟩ (I u1)).setCell ⟨B+1+1,5,none⟩ (I u2)).setCell ⟨B+1+1,6,none⟩ (I u3)).setCell ⟨B+1+1,7,none⟩ (I u4)).setCell ⟨B+1+1,8,none⟩ (I u5))=WZ at*
   obtain⟨d0,d1,d2,d3,d4,d5,d6,d7,d8⟩:=hE.c9;refine bodyPost_ret (v:= .tuple #[.agg #[.slice (some ⟨b0,o0,none⟩) segs.length cp,I wt,J (wv+1),I u0,I u1,I u2,I u3,I u4,I u5],I 0]) ?_ rfl ?_
   ·simp[results,Tryz.results35,go_sem,d0,d1,d2,d3,d4,d5,d6,d7,d8]
   ·refine hR'.out _ _ ?_;rw[Hres9.out];exact⟨rfl,hrr,hkk⟩
  ·have hrtb:(rt !=0)=true:=by simpa using hrt
   have hres:res=((⟨segs,wt,wv,⟨u0,u1,u2,u3,u4,u5⟩⟩,7),s2):=by rw[Hres.out,if_pos (Or.inr hrt)];rfl
   clear hoff hrt;exact c32):p:=h
theorem c344 (h:p:=by
 obtain⟨j,rfl,rfl,hj,rfl,HC⟩:=hrel;have hab:=accN_bnd H192.out j (by omega) HC.out
 have hab2:0≤accN s i j∧accN s i j≤8388607:=by
  exact c134
 obtain⟨hab0,hab1⟩:=hab2;clear hab;exact zz60.down):p:=h
theorem c345 (h:p:=by
 by_cases hlt:j+1<2
 ·have hltI:(j:Int)+1<2:=by omega
  exact c14
 ·obtain rfl:j=1:=by omega
  have hsm:=atP_some s i 1 hi H192.out (by rw[Hk.out];rfl) (by omega) HC.out
  rw[Hat.out]at hsm;generalize accN s i 1=n at*;have Hsm:=hid hsm;clear hsm
  go_wp2_with fail
  refine(ref4_may n w).mono ?_;rintro e w2 ⟨rfl,rfl⟩
  cases hv:Utf8.valid n with
  |false=>
   exact c425
  |true=>
   go_wp2_with fail
   refine(ref4_bytes n (by omega) w).mono ?_
   rintro e w2 ⟨v,rfl,hN⟩;obtain⟨A,c,rfl⟩:=ownB_form hN.1;have hk2:=hN.2;clear hN
   by_cases hl:(encB n).length=2
   ·have he:=Hsm.out.1 ⟨hv,hl⟩;injection he with e1 e2
    have hlb:(((encB n).length:Int) !=2)=false:=by simp[hl]
    exact c79
   ·have he:=Hsm.out.2 (fun h=>hl h.2);injection he with e1 e2
    subst e1 e2;have hlb:(((encB n).length:Int) !=2)=true:=by simp;omega
    exact c105):p:=h
theorem c346 (h:p:=by
 by_cases hlt:j+1<3
 ·have hltI:(j:Int)+1<3:=by omega
  exact c14
 ·obtain rfl:j=2:=by omega
  have hsm:=atP_some s i 2 hi H192.out (by rw[Hk.out];rfl) (by omega) HC.out
  rw[Hat.out]at hsm;generalize accN s i 2=n at*;have Hsm:=hid hsm;clear hsm
  go_wp2_with fail
  refine(ref4_may n w).mono ?_;rintro e w2 ⟨rfl,rfl⟩
  cases hv:Utf8.valid n with
  |false=>
   exact c425
  |true=>
   go_wp2_with fail
   refine(ref4_bytes n (by omega) w).mono ?_
   rintro e w2 ⟨v,rfl,hN⟩;obtain⟨A,c,rfl⟩:=ownB_form hN.1;have hk2:=hN.2;clear hN
   by_cases hl:(encB n).length=3
   ·have he:=Hsm.out.1 ⟨hv,hl⟩;injection he with e1 e2
    have hlb:(((encB n).length:Int) !=3)=false:=by simp[hl]
    exact c79
   ·have he:=Hsm.out.2 (fun h=>hl h.2);injection he with e1 e2
    subst e1 e2;have hlb:(((encB n).length:Int) !=3)=true:=by simp;omega
    exact c105):p:=h
theorem c347 (h:p:=by
 by_cases hlt:j+1<4
 ·have hltI:(j:Int)+1<4:=by omega
  exact c14
 ·obtain rfl:j=3:=by omega
  have hsm:=atP_some s i 3 hi H192.out (by rw[Hk.out];rfl) (by omega) HC.out
  rw[Hat.out]at hsm;generalize accN s i 3=n at*;have Hsm:=hid hsm;clear hsm
  go_wp2_with fail
  refine(ref4_may n w).mono ?_;rintro e w2 ⟨rfl,rfl⟩
  cases hv:Utf8.valid n with
  |false=>
   exact c425
  |true=>
   go_wp2_with fail
   refine(ref4_bytes n (by omega) w).mono ?_
   rintro e w2 ⟨v,rfl,hN⟩;obtain⟨A,c,rfl⟩:=ownB_form hN.1;have hk2:=hN.2;clear hN
   by_cases hl:(encB n).length=4
   ·have he:=Hsm.out.1 ⟨hv,hl⟩;injection he with e1 e2
    have hlb:(((encB n).length:Int) !=4)=false:=by simp[hl]
    exact c79
   ·have he:=Hsm.out.2 (fun h=>hl h.2);injection he with e1 e2
    subst e1 e2;have hlb:(((encB n).length:Int) !=4)=true:=by simp;omega
    exact c105):p:=h
theorem c348 (h:p:=by
 clear hc hp;have Hst:=hid hst;have Hkk:=hid hkk;clear hst hkk
 go_wp2_with (go_at_call 68;first|(with_reducible refine(Hs.out _).mono ?_;rintro e w9 ⟨rfl,rfl⟩))
 go_quiet (fail)
 go_wp2_with fail
 exact zz61.down):p:=h
theorem c349 (h:p:=by
 go_roundw
 case rel=>exact⟨1,rfl,by decide,hid ((((HC.out.drewN _).set_ne (a:=⟨B+1+1,0,none⟩) _ (by show B≠B+1+1;omega)).set_ne (a:=⟨B+1+1,6,none⟩) _ (by show B≠B+1+1;omega)).set_ne (a:=⟨B+1+1,12,none⟩) _ (by show B≠B+1+1;omega)),hid ((((HZ.out.drewN _).set_ne (a:=⟨B+1+1,0,none⟩) _ (by show B+1≠B+1+1;omega)).set_ne (a:=⟨B+1+1,6,none⟩) _ (by show B+1≠B+1+1;omega)).set_ne (a:=⟨B+1+1,12,none⟩) _ (by show B+1≠B+1+1;omega)),hid ((((Hst.out.drewN _).set 0 (I (3))).set 6 (I (s0*4))).set 12 (I (3+s0*4))),hid ((((Hkk.out.drewN _).setCell (p:=⟨B+1+1,0,none⟩) (nb2 B) _).setCell (p:=⟨B+1+1,6,none⟩) (nb2 B) _).setCell (p:=⟨B+1+1,12,none⟩) (nb2 B) _)⟩
 case measure=>exact msA):p:=h
theorem c350 (h:p:=by
 go_roundw
 case rel=>exact⟨2,rfl,by decide,hid ((((HC.out.drewN _).set_ne (a:=⟨B+1+1,1,none⟩) _ (by show B≠B+1+1;omega)).set_ne (a:=⟨B+1+1,7,none⟩) _ (by show B≠B+1+1;omega)).set_ne (a:=⟨B+1+1,12,none⟩) _ (by show B≠B+1+1;omega)),hid ((((HZ.out.drewN _).set_ne (a:=⟨B+1+1,1,none⟩) _ (by show B+1≠B+1+1;omega)).set_ne (a:=⟨B+1+1,7,none⟩) _ (by show B+1≠B+1+1;omega)).set_ne (a:=⟨B+1+1,12,none⟩) _ (by show B+1≠B+1+1;omega)),hid ((((Hst.out.drewN _).set 1 (I (3+s0*4))).set 7 (I (s1*16))).set 12 (I (3+s0*4+s1*16))),hid ((((Hkk.out.drewN _).setCell (p:=⟨B+1+1,1,none⟩) (nb2 B) _).setCell (p:=⟨B+1+1,7,none⟩) (nb2 B) _).setCell (p:=⟨B+1+1,12,none⟩) (nb2 B) _)⟩
 case measure=>exact msA):p:=h
theorem c351 (h:p:=by
 go_roundw
 case rel=>exact⟨3,rfl,by decide,hid ((((HC.out.drewN _).set_ne (a:=⟨B+1+1,2,none⟩) _ (by show B≠B+1+1;omega)).set_ne (a:=⟨B+1+1,8,none⟩) _ (by show B≠B+1+1;omega)).set_ne (a:=⟨B+1+1,12,none⟩) _ (by show B≠B+1+1;omega)),hid ((((HZ.out.drewN _).set_ne (a:=⟨B+1+1,2,none⟩) _ (by show B+1≠B+1+1;omega)).set_ne (a:=⟨B+1+1,8,none⟩) _ (by show B+1≠B+1+1;omega)).set_ne (a:=⟨B+1+1,12,none⟩) _ (by show B+1≠B+1+1;omega)),hid ((((Hst.out.drewN _).set 2 (I (3+s0*4+s1*16))).set 8 (I (s2*64))).set 12 (I (3+s0*4+s1*16+s2*64))),hid ((((Hkk.out.drewN _).setCell (p:=⟨B+1+1,2,none⟩) (nb2 B) _).setCell (p:=⟨B+1+1,8,none⟩) (nb2 B) _).setCell (p:=⟨B+1+1,12,none⟩) (nb2 B) _)⟩
 case measure=>exact msA):p:=h
theorem c352 (h:p:=by
 go_roundw
 case rel=>exact⟨4,rfl,by decide,hid ((((HC.out.drewN _).set_ne (a:=⟨B+1+1,3,none⟩) _ (by show B≠B+1+1;omega)).set_ne (a:=⟨B+1+1,9,none⟩) _ (by show B≠B+1+1;omega)).set_ne (a:=⟨B+1+1,12,none⟩) _ (by show B≠B+1+1;omega)),hid ((((HZ.out.drewN _).set_ne (a:=⟨B+1+1,3,none⟩) _ (by show B+1≠B+1+1;omega)).set_ne (a:=⟨B+1+1,9,none⟩) _ (by show B+1≠B+1+1;omega)).set_ne (a:=⟨B+1+1,12,none⟩) _ (by show B+1≠B+1+1;omega)),hid ((((Hst.out.drewN _).set 3 (I (3+s0*4+s1*16+s2*64))).set 9 (I (s3*256))).set 12 (I (3+s0*4+s1*16+s2*64+s3*256))),hid ((((Hkk.out.drewN _).setCell (p:=⟨B+1+1,3,none⟩) (nb2 B) _).setCell (p:=⟨B+1+1,9,none⟩) (nb2 B) _).setCell (p:=⟨B+1+1,12,none⟩) (nb2 B) _)⟩
 case measure=>exact msA):p:=h
theorem c353 (h:p:=by
 unfold V6.list at hc1;obtain⟨y0,y1,y2,y3,y4,y5⟩:=hc1.c6;have f0:=hc1.free 0;have f1:=hc1.free 1;have f2:=hc1.free 2;have f3:=hc1.free 3;have f4:=hc1.free 4;have f5:=hc1.free 5;exact zz62.down):p:=h
theorem c354 (h:p:=by
 have fg:=ownB_free hP4.own.1 (by omega) (j*4+1)
 have a1:w4.cell? ⟨g,j*4+1,none⟩=some (I 0):=by
  obtain⟨g',e,hc⟩:=own_rec TermM.len4 hP4.own.1 H0.out;injection e with e;injection e with e;subst e
  exact hc 1 _ (by decide) rfl
 have hgB:¬g=B+1:=fun e=>by have:=hP4.lt g (Or.inr rfl);omega
 have hgB':¬B+1=g:=fun e=>hgB e.symm;clear hc1;have HP4:=hid hP4;have HP5:=hid hP5;clear hP4 hP5;dsimp only
 go_wp2_with fail
 go_meet
 case rel=>exact⟨ad,⟨v0,v1,v2,v3,v4,v5⟩,s2,rfl,HrecT,Hu',HP5⟩):p:=h
theorem c355 (h:p:=by
 clear hP8 hc1;have HP9:=hid hP9;clear hP9;dsimp only at*;refine wpAnyH_ready (rs:=[16]) (by kernel_rfl) (by simp) ?_
 refine AllReadyH.cons (o:=_) rfl (fun K hK=>?_) AllReadyH.nil
 go_simp
 refine hK.out _ _ trivial (fun _=>?_);clear hK K
 (try simp only[Act.put,List.setIfInBounds_toArray,List.set_cons_zero,List.set_cons_succ])
 refine wpAnyH_ready (rs:=[17]) (by kernel_rfl) (by simp) ?_
 refine AllReadyH.cons (o:=_) rfl (fun K hK=>?_) AllReadyH.nil
 go_simp
 refine hK.out _ _ trivial (fun _=>?_);clear hK K
 (try simp only[Act.put,List.setIfInBounds_toArray,List.set_cons_zero,List.set_cons_succ])
 refine wpAnyH_done (by kernel_rfl) ?_ _
 generalize ((((((w7.setCell ⟨g,j*4+2,none⟩ (I t')).setCell ⟨B+1,0,none⟩ (I v0)).setCell ⟨B+1,1,none⟩ (I v1)).setCell ⟨B+1,2,none⟩ (I v2)).setCell ⟨B+1,3,none⟩ (I v3)).setCell ⟨B+1,4,none⟩ (I v4)).setCell ⟨B+1,5,none⟩ (I v5)=WX at*;have hjt:(all.set j ⟨tk,rc,t',tc⟩)[j]? =some ⟨tk,rc,t',tc⟩:=by rw[List.getElem?_set_self hjl]
 have hcc:WX.cell? ⟨g,j*4+1,none⟩=some (I rc)∧WX.cell? ⟨g,j*4+2,none⟩=some (I t'):=by
  obtain⟨g',e,hc⟩:=own_rec TermM.len4 HP9.out.own.1 hjt;injection e with e;injection e with e;subst e
  exact⟨hc 1 _ (by decide) rfl,hc 2 _ (by decide) rfl⟩
 obtain⟨x1,x2⟩:=hcc;clear y0 y1 y2 y3 y4 y5 f0 f1 f2 f3 f4 f5 fg a2 HP7 HP hHeld0 hTr HX HU hjt
 go_upto_region 8 with fail
 have y1:=fun q:KC (fun _=>True) WX=>q.cell trivial x1;have y2:=fun q:KC (fun _=>True) WX=>q.cell trivial x2;refine wp_region_kc_tail (fun _=>True) 9 (by kernel_rfl) (by kernel_rfl) ?_
 simp only[List.take_succ_cons,List.take_zero,List.drop_succ_cons,List.drop_zero]
 repeat(go_big_quiet_step (fail))
 refine wpQuiet_nil ?_;rintro _ ⟨⟨wq,hkq⟩,rfl⟩;have hP10:=HP9.out.keep (HP9.out.rm.keep _ hkq fun _ _ _=>trivial) (hkq.mono fun _ _=>trivial);clear y1 y2 x1 x2 HP9 hkq;have HP10:=hid hP10;clear hP10
 go_wp2_with fail
 refine(dict_setTail HP10.out.rm rc t' Hok2.out).mono ?_;rintro e w8 ⟨rfl,hr8,hk8⟩;have hP11:=HP10.out.keep hr8 hk8;clear hr8 hk8 HP10;have hc1:=hP11.b1;unfold V6.list at hc1;obtain⟨y0,y1,y2,y3,y4,y5⟩:=hc1.c6;have hc3:=hP11.b3;unfold V6.list zero6 at hc3;dsimp only at hc3;obtain⟨z0,z1,z2,z3,z4,z5⟩:=hc3.c6;have f3:=hc3.free;clear hc1;have hKB:¬K (B+1+1+1):=fun hk=>by have:=hP11.lt _ (Or.inl hk);omega
 have HP11:=hid hP11;have Hc3:=hid hc3;have HKB:=hid hKB;clear hP11 hc3 hKB
 go_wp2_with fail
 have hE:=Hc3.out.set6 (I v0) (I v1) (I v2) (I v3) (I v4) (I v5) rfl;have hP:=HP11.out;have hE0:=hP.h0;have hgB:¬g=B+1+1+1:=fun e=>by have:=hP.lt g (Or.inr rfl);omega
 have hon:=ownsRow_set6 hP.own.1 (b:=B+1+1+1) (fun e=>by injection e with e;exact hgB e) (I v0) (I v1) (I v2) (I v3) (I v4) (I v5)
 have hkk:=hP.kp.set6 (I v0) (I v1) (I v2) (I v3) (I v4) (I v5) HKB.out;have hrr:=hP.rm.set6 (b:=B+1+1+1) (I v0) (I v1) (I v2) (I v3) (I v4) (I v5) (Or.inr (by omega))
 have hown2:=hP.own.2;have hlen:=hP.len;clear hP z0 z1 z2 z3 z4 z5 f3 Hc3;generalize ((((((w8.setCell ⟨B+1+1+1,0,none⟩ (I v0)).setCell ⟨B+1+1+1,1,none⟩ (I v1)).setCell ⟨B+1+1+1,2,none⟩ (I v2)).setCell ⟨B+1+1+1,3,none⟩ (I v3)).setCell ⟨B+1+1+1,4,none⟩ (I v4)).setCell ⟨B+1+1+1,5,none⟩ (I v5))=WF at*;obtain⟨d0,d1,d2,d3,d4,d5⟩:=hE.c6;refine bodyPost_ret (v:= .agg #[I v0,I v1,I v2,I v3,I v4,I v5]) ?_ rfl ?_
 ·simp[results,Tryz.results55,go_sem,d0,d1,d2,d3,d4,d5]
 ·refine hR'.out _ _ ?_;rw[←Hres7.out];rw[hlen]at hon;exact⟨rfl,hrr.mono fun b hb=>Or.inl hb,⟨(show WF.ownsRow 0 154 4 (.slice (some ⟨g,0,none⟩) all.length cp) (all.set j ⟨tk,rc,t',tc⟩).length ((all.set j ⟨tk,rc,t',tc⟩).flatMap TermM.cells)from by rw[hlen];exact hon),by rw[hlen]at hown2;exact hown2⟩,hkk⟩):p:=h
theorem c356 (h:p:=by
 obtain⟨d0,d1,d2,d3,d4,d5⟩:=hD0.c6;obtain⟨p0,p1,p2,p3,p4,p5,p6,p7,p8,p9,p10,p11,p12,p13,p14⟩:=hD1.c15;have f1:=hD1.free
 go_wp2_with fail
 exact zz63.down):p:=h
theorem c357 (h:p:=by
 go_roundw
 case rel=>
  refine⟨1,by omega,rfl,congrArg (Value.int .i64) (by simp only[baseC,szC]<;>omega),?_,?_,?_,?_,?_⟩
  ·exact bA
  ·exact bA
  ·have hx:=hD1.set 0 (I (3));exact c26
  ·exact bA
  ·exact kA
 case measure=>simp[intOf]):p:=h
theorem c358 (h:p:=by
 go_roundw
 case rel=>
  refine⟨2,by omega,rfl,congrArg (Value.int .i64) (by simp only[baseC,szC]<;>omega),?_,?_,?_,?_,?_⟩
  ·exact bA
  ·exact bA
  ·have hx:=hD1.set 1 (I (3+4*s0));exact c26
  ·exact bA
  ·exact kA
 case measure=>simp[intOf]):p:=h
theorem c359 (h:p:=by
 go_roundw
 case rel=>
  refine⟨3,by omega,rfl,congrArg (Value.int .i64) (by simp only[baseC,szC]<;>omega),?_,?_,?_,?_,?_⟩
  ·exact bA
  ·exact bA
  ·have hx:=hD1.set 2 (I (3+4*s0+16*s1));exact c26
  ·exact bA
  ·exact kA
 case measure=>simp[intOf]):p:=h
theorem c360 (h:p:=by
 go_roundw
 case rel=>
  refine⟨4,by omega,rfl,congrArg (Value.int .i64) (by simp only[baseC,szC]<;>omega),?_,?_,?_,?_,?_⟩
  ·exact bA
  ·exact bA
  ·have hx:=hD1.set 3 (I (3+4*s0+16*s1+64*s2));exact c26
  ·exact bA
  ·exact kA
 case measure=>simp[intOf]):p:=h
theorem c361 (h:p:=by
 go_roundw
 case rel=>
  refine⟨5,by omega,rfl,congrArg (Value.int .i64) (by simp only[baseC,szC]<;>omega),?_,?_,?_,?_,?_⟩
  ·exact bA
  ·exact bA
  ·have hx:=hD1.set 4 (I (3+4*s0+16*s1+64*s2+256*s3));exact c26
  ·exact bA
  ·exact kA
 case measure=>simp[intOf]):p:=h
theorem c362 (h:p:=by
 go_roundw
 case rel=>
  refine⟨6,by omega,rfl,congrArg (Value.int .i64) (by simp only[baseC,szC]<;>omega),?_,?_,?_,?_,?_⟩
  ·exact bA
  ·exact bA
  ·have hx:=hD1.set 5 (I (3+4*s0+16*s1+64*s2+256*s3+book));exact c26
  ·exact bA
  ·exact kA
 case measure=>simp[intOf]):p:=h
theorem c363 (h:p:=by
 have e0:0≤((ho:Int)+k)%n:=Int.emod_nonneg _ (by omega)
 have e1:((ho:Int)+k)%n<n:=Int.emod_lt_of_pos _ (by omega)
 exact zz64.down):p:=h
theorem c364 (h:p:=by
 have Hex:=hid hex;clear hex;clear e
 go_wp2_with fail
 have hsl:((ho:Int)+k)%n=(((ho+k)%n:Nat):Int):=by rw[Int.natCast_emod,Int.natCast_add]
 generalize ((ho:Int)+k)%n=sl at*;refine(step_load HR.out (s0+sl)).mono ?_;rintro e w3 ⟨rfl,hr3,hk3⟩;have hu3:=HR.out.load_u32 (s0+sl);generalize hls:s'.load (s0+sl)=ls at*;obtain⟨x,s1⟩:=ls;simp only at hr3 hu3;obtain⟨u0,u1⟩:=hu3;rw[hsl]at hls;have hk3':=HK.out.trans hk3;have Hls:=hid hls;have Hr3:=hid hr3;have Hk3':=hid hk3';have Hsl:=hid hsl;clear hls hr3 hk3' hsl
 clear hk3
 go_wp2_with fail
 refine(step_off Hr3.out).mono ?_;rintro e w4 ⟨rfl,rfl⟩
 cases hoff:s1.isOff with
 |true=>
  have hfin:=Hex.out;rw[findD_off Hls.out hoff]at hfin;have Hfin:=hid hfin;have Hoff:=hid hoff;clear hfin hoff
  go_wp2_with fail
  refine hR'.out _ _ ⟨by rw[←Hfin.out];rfl,by rw[←Hfin.out];exact Hr3.out.mono HKK.out,Hkw.out.trans (Hk3'.out.mono HKK.out)⟩
 |false=>
  by_cases hx:x=0
  ·subst hx;have hfin:=Hex.out;rw[findD_zero Hls.out hoff]at hfin;have Hfin:=hid hfin;have Hoff:=hid hoff;clear hfin hoff
   go_wp2_with fail
   refine hR'.out _ _ ⟨by rw[←Hfin.out,Hsl.out];rfl,by rw[←Hfin.out];exact Hr3.out.mono HKK.out,Hkw.out.trans (Hk3'.out.mono HKK.out)⟩
  ·have hb:(x==0)=false:=by simpa using hx
   have Hx:=hid hx;have Hoff:=hid hoff;clear hx hoff
   go_wp2_with fail
   refine(step_load Hr3.out _).mono ?_;rintro e w5 ⟨rfl,hr5,hk5⟩;have hu5:=Hr3.out.load_u32 (x+1);generalize hls5:s1.load (x+1)=ls at*;obtain⟨y,s2⟩:=ls;simp only at hr5 hu5;obtain⟨v0,v1⟩:=hu5;have hk5':=Hk3'.out.trans hk5;have Hls5:=hid hls5;have Hr5:=hid hr5;have Hk5':=hid hk5';clear hls5 hr5 hk5';clear hk5
   by_cases hy:y=t.size
   ·have hnx:=Hex.out;subst hy;rw[findD_cmp Hls.out Hoff.out Hx.out Hls5.out]at hnx;have Hnx:=hid hnx;clear hnx
    go_wp2_with fail
    go_loopw[61] (fun j wr2=>∃(q:Nat) (s3:St),j=I q∧q≤(t.size+3)/4∧RM wr2 K1 r m c s3∧Keeps K1 w1 wr2∧
     ((cmpD x (C.drop q) q).bind (contD s0 n ho C t.size (n-(k+1)) k x)).exec s3=res) (fun j _=>(t.size+3)/4-(intOf j).toNat)
    case atStart=>exact⟨0,s2,rfl,Nat.zero_le _,Hr5.out,Hk5'.out,by rw[List.drop_zero];exact Hnx.out⟩
    case round=>
     obtain⟨q,s3,rfl,hq,hR3,hK3,hex3⟩:=hrel;have HR3:=hid hR3;have HK3:=hid hK3;clear hR3 hK3;clear Hnx Hr5 Hk5' Hex Hls Hls5 HR HK Hr3 Hk3'
     by_cases hqlt:q<(t.size+3)/4
     ·have hCq:q<C.length:=by rw[Hpl.out];exact hqlt
      have hd:C.drop q=C[q]::C.drop (q+1):=List.drop_eq_getElem_cons hCq;have hcell:wr.cell? ⟨b1,q,none⟩=some (J C[q]):=by
       rw[World.cell?_of_block (a:=⟨b1,q,none⟩) (HK3.out.block b1 Hb1K.out),HB1.out.cell,HC.out,List.getElem?_map,List.getElem?_eq_getElem hCq];rfl
      have zz125:=PLift.up @c626;exact c624
     ·have hqn:C.drop q=[]:=List.drop_of_length_le (by rw[Hpl.out];omega)
      rw[hqn]at hex3;have hfin:((x,(((ho+k)%n:Nat):Int)),s3)=res:=hex3;clear hex3 hqn;have Hfin:=hid hfin;clear hfin
      go_wp2_with fail
      refine hR'.out _ _ ⟨by rw[←Hfin.out,Hsl.out];rfl,by rw[←Hfin.out];exact HR3.out.mono HKK.out,Hkw.out.trans (HK3.out.mono HKK.out)⟩
   ·have hby:(y !=(t.size:Int))=true:=by simpa using hy
    have hnx:=Hex.out;rw[findD_len Hls.out Hoff.out Hx.out Hls5.out hy]at hnx;have Hnx:=hid hnx;have Hy:=hid hy;clear hnx hy
    go_wp2_with fail
    go_roundw
    case rel=>exact⟨k+1,s2,by go_num,by omega,Hr5.out,Hk5'.out,Hnx.out⟩
    case measure=>simp[intOf];omega):p:=h
theorem c365 (h:p:=by
 have hslw:=Hsl.out.keep HK.out Hb.out;have hsz:=HK.out.size;have hbw:∀b,K b→b<wr.heap.size:=fun b h=>Nat.lt_of_lt_of_le (Hb.out b h) hsz;have Hex:=hid hex;have Hslw:=hid hslw;have Hbw:=hid hbw;clear hex hslw hbw;clear HE
 go_wp2_with fail
 have hsl:((ho:Int)+k)%n=(((ho+k)%n:Nat):Int):=by rw[Int.natCast_emod,Int.natCast_add]
 have hex:=Hex.out;rw[←hsl]at hex;generalize ((ho:Int)+k)%n=sl at*;clear hsl Hex;have h1:=Hat.out wr Hslw.out (s0+sl);have hu1:=Hau.out (s0+sl);generalize atL cs (s0+sl)=x1 at*;obtain⟨x,ok⟩:=x1;dsimp only at hex h1 hu1;have h2:=His.out wr Hbw.out Hslw.out x hu1;obtain⟨hx0,hx1⟩:=hu1;have Hex:=hid hex;have H1:=hid h1;have H2:=hid h2;clear hex h1 h2;refine H1.out.mono ?_
 rintro e w3 ⟨rfl,rfl⟩
 cases ok with
 |false=>
  have hr:res=(0,0,false):=by rw[Hex.out];rfl
  have Hr:=hid hr;clear hr
  go_wp2_with fail
  refine hR'.out _ _ ⟨?_,HK.out⟩;exact c59
 |true=>
  by_cases hx:x=0
  ·subst hx;have hr:res=(0,sl,true):=by rw[Hex.out];rfl
   have Hr:=hid hr;clear hr;clear Hex
   go_wp2_with fail
   refine hR'.out _ _ ⟨?_,HK.out⟩;exact c59
  ·have hxb:(x==0)=false:=by simp[hx]
   have hex:=Hex.out;rw[if_neg (by decide),if_neg hx]at hex
   generalize isL cs x key=q at*;obtain⟨qf,qt⟩:=q;dsimp only at hex;have h2:=H2.out;dsimp only at h2;clear hx Hex H2;have Hex:=hid hex;have H2:=hid h2;clear hex h2
   go_wp2_with fail
   refine H2.out.mono ?_;rintro e w5 ⟨rfl,hk5⟩;have hK5:=HK.out.trans (hk5.mono fun b hb=>Nat.lt_of_lt_of_le hb hsz);clear hk5;have HK5:=hid hK5;clear hK5
   cases qt with
   |false=>
    have hr:res=(0,0,false):=by rw[Hex.out];rfl
    have Hr:=hid hr;clear hr
    go_wp2_with fail
    refine hR'.out _ _ ⟨?_,HK5.out⟩;exact c59
   |true=>
    cases qf with
    |true=>
     have hr:res=(x,sl,true):=by rw[Hex.out];rfl
     have Hr:=hid hr;clear hr
     go_wp2_with fail
     refine hR'.out _ _ ⟨?_,HK5.out⟩;exact c59
    |false=>
     have hr:res=findL cs s0 n ho key (n-(k+1)) (k+1):=by rw[Hex.out];rfl
     have Hr:=hid hr;clear hr
     go_wp2_with fail
     go_roundw
     case rel=>exact⟨k+1,by go_num,by omega,Hr,HK5⟩
     case measure=>exact msA):p:=h
theorem c366 (h:p:=by
 obtain⟨y0,y1,y2,y3,y4,y5⟩:=hm.c6;clear hm HM HK;have Hst:=hid hst;have Hkk:=hid hkk;clear hst hkk
 go_wp2_with fail
 exact zz65.down):p:=h
theorem c367 (h:p:=by
 go_roundw
 case rel=>exact⟨1,rfl,by decide,hid Hst.out,Hkk,by simpa using hsx⟩
 case measure=>exact msA):p:=h
theorem c368 (h:p:=by
 go_roundw
 case rel=>exact⟨2,rfl,by decide,hid Hst.out,Hkk,by simpa using hsx⟩
 case measure=>exact msA):p:=h
theorem c369 (h:p:=by
 go_roundw
 case rel=>exact⟨3,rfl,by decide,hid Hst.out,Hkk,by simpa using hsx⟩
 case measure=>exact msA):p:=h
theorem c370 (h:p:=by
 go_roundw
 case rel=>exact⟨4,rfl,by decide,hid Hst.out,Hkk,by simpa using hsx⟩
 case measure=>exact msA):p:=h
theorem c371 (h:p:=by
 go_roundw
 case rel=>exact⟨6,rfl,by decide,hid Hst.out,Hkk,by simpa using hsx⟩
 case measure=>exact msA):p:=h
theorem c372 (h:p:=by
 go_roundw
 case rel=>exact⟨5,rfl,by decide,hid Hst.out,Hkk,by simpa using hsx⟩
 case measure=>exact msA):p:=h
theorem c373 (h:p:=by
 have hBf:=hB0;unfold PlanM.flat at hBf;obtain⟨p0,p1,p2,p3,p4,p5,p6,p7,p8,p9,p10,p11,p12,p13,p14⟩:=hBf.c15;exact zz66.down):p:=h
theorem c374 (h:p:=by
 clear hBf
 go_wp2_with fail
 refine(hcl w1 HTB.out.1).mono ?_;rintro e w2 ⟨rfl,hk2⟩;have hB0':=hB0.keep hk2 hB0.lt;have hB1':=hB1.keep hk2 hB1.lt;have hB2':=hB2.keep hk2 hB2.lt;have hkw':=hkw.trans (hk2.mono fun b hb=>by have:=HTB.out.2;omega)
 have HTC:=hid (show PTab w2∧B+1+1<w2.heap.size∧0<B from⟨HTB.out.1.keep hk2 (by have:=HTB.out.2;omega),hB2'.lt,HTB.out.2.2⟩)
 clear hB0 hB1 hB2 hkw hk2 HTB hB0' hcl p0 p1 p2 p3 p4 p5 p6 p7 p8 p9 p10 p11 p12 p13 p14
 go_wp2_with fail
 refine(slab_call k HKK.out w2 HTC.out.1).mono ?_;rintro e w5 ⟨rfl,hw5⟩;subst hw5;have hszb:=szK_bd k;have HSZ:=hid (szK_bd k);generalize szK k=S at*;obtain⟨R0,hR0⟩:∃R0,R0=S-1-c2:=⟨_,rfl⟩;obtain⟨K0,hK0⟩:∃K0:Nat,K0=min (k+1) 3:=⟨_,rfl⟩;rw[←hR0,←hK0]at hR';have hc0:=HC0.out;have hc1:=HC1.out;have hkk:=HKK.out;have gs1:IntKind.i64.wrap (S-1)=S-1:=IntWalk.i64_in _ (by omega)
 have gs2:IntKind.i64.wrap (S-1-c2)=R0:=by rw[hR0];exact IntWalk.i64_in _ (by omega)
 have gk1:IntKind.i64.wrap ((k:Int)+1)=(k:Int)+1:=IntWalk.i64_in _ (by omega)
 have HKM:=hid hK0;have HR0:=hid (show 0≤R0∧R0≤256∧K0≤3 from by omega)
 clear hR0 hK0 hc0 hc1 hkk hszb HC0 HC1 HKK HSZ
 go_wp2_with fail
 all_goals clear gs1 gs2 gk1
 all_goals
  have hB1:=hB1';have hB2:=hB2';have hkw:=hkw';clear hB1' hB2' hkw'
 case inr=>
  exact c3
 case inl=>
  exact c3):p:=h
theorem c375 (h:p:=by
 clear hBf h0 hc1 hmk hk
 go_wp2_with fail
 refine(HCL.out w1).mono ?_;rintro e w2 ⟨rfl,hk2⟩;have hB1':=hB1.keep hk2 hB1.lt;have hB2':=hB2.keep hk2 hB2.lt;have hkw':=hkw.trans (hk2.mono fun b hb=>by have:=hB1.lt;omega)
 clear hB0 hB1 hB2 hkw hk2 p0 p1 p2 p3 p4 p5 p6 p7 p8 p9 p10 p11 p12 p13 p14
 go_wp2_with fail
 refine(slab_ref k HKK.out w2).mono ?_;rintro e w5 ⟨rfl,hw5⟩;subst hw5;have hsz:((4^(k+1):Nat):Int)=szK k:=by
  have:=HKK.out;have hk4:k=0∨k=1∨k=2∨k=3:=by omega
  rcases hk4 with rfl|rfl|rfl|rfl<;>rfl
 rw[hsz];have hszb:=szK_bd k;clear hsz;generalize szK k=S at*;obtain⟨R0,hR0⟩:∃R0:Nat,R0=(S-1-c2).toNat:=⟨_,rfl⟩;obtain⟨K0,hK0⟩:∃K0:Nat,K0=min (k+1) 3:=⟨_,rfl⟩;rw[←hR0,←hK0]at hR';have hmk:=HMK.out;have hkk:=HKK.out;have gs1:IntKind.i64.wrap (S-1)=S-1:=IntWalk.i64_in _ (by omega)
 have gs2:IntKind.i64.wrap (S-1-c2)=(R0:Int):=by rw[hR0,Int.toNat_of_nonneg (by omega)];exact IntWalk.i64_in _ (by omega)
 have gk1:IntKind.i64.wrap ((k:Int)+1)=(k:Int)+1:=IntWalk.i64_in _ (by omega)
 have HRK:=hid (show 0≤R0∧R0≤256∧K0≤3∧K0=min (k+1) 3 from by omega)
 clear hR0 hK0 hmk hkk hszb HMK HKK
 go_wp2_with fail
 all_goals clear gs1 gs2 gk1
 all_goals
  have hB1:=hB1';have hB2:=hB2';have hkw:=hkw';clear hB1' hB2' hkw'
 case inr=>
  exact c4
 case inl=>
  exact c4):p:=h
theorem c376 (h:p:=by
 have HHP:=hid hHP;clear hHP;obtain⟨hb0',hb1'⟩:=hbk;obtain⟨hs0',hs1'⟩:=hsk;have HHS:=hid hhas;clear hhas hblk;exact zz67.down):p:=h
theorem c377 (h:p:=by
 by_cases h1:X≤a
 ·have g1:a≥X:=h1;have g2:IntKind.i64.wrap (a-X)=a-X:=IntWalk.i64_in _ (by omega)
  by_cases h2:a-X<Y
  ·have g3:decide (a-X<Y)=true:=decide_eq_true h2;have g4:0≤a-X:=by omega
   have g5:(a-X).tmod 4=(a-X)%4:=Int.tmod_eq_emod_of_nonneg g4;exact c45
  ·have g3:decide (a-X<Y)=false:=decide_eq_false h2;have HE:=hid (fun h=>h2 (HHS.out.1 h).2);clear h2;exact c75
 ·have g1:¬a≥X:=h1;have g1':decide (a≥X)=false:=decide_eq_false h1;have HE:=hid (fun h=>h1 (HHS.out.1 h).1);clear h1;exact c75):p:=h
theorem c378 (h:p:=by
 by_cases h1:X≤a
 ·have g1:a≥X:=h1;have g2:IntKind.i64.wrap (a-X)=a-X:=IntWalk.i64_in _ (by omega)
  by_cases h2:a-X<Y
  ·have g3:decide (a-X<Y)=true:=decide_eq_true h2;have g4:0≤a-X:=by omega
   have g5:(a-X).tmod 16=(a-X)%16:=Int.tmod_eq_emod_of_nonneg g4;exact c45
  ·have g3:decide (a-X<Y)=false:=decide_eq_false h2;have HE:=hid (fun h=>h2 (HHS.out.1 h).2);clear h2;exact c76
 ·have g1:¬a≥X:=h1;have g1':decide (a≥X)=false:=decide_eq_false h1;have HE:=hid (fun h=>h1 (HHS.out.1 h).1);clear h1;exact c76):p:=h
theorem c379 (h:p:=by
 by_cases h1:X≤a
 ·have g1:a≥X:=h1;have g2:IntKind.i64.wrap (a-X)=a-X:=IntWalk.i64_in _ (by omega)
  by_cases h2:a-X<Y
  ·have g3:decide (a-X<Y)=true:=decide_eq_true h2;have g4:0≤a-X:=by omega
   have g5:(a-X).tmod 64=(a-X)%64:=Int.tmod_eq_emod_of_nonneg g4;exact c45
  ·have g3:decide (a-X<Y)=false:=decide_eq_false h2;have HE:=hid (fun h=>h2 (HHS.out.1 h).2);clear h2;exact c77
 ·have g1:¬a≥X:=h1;have g1':decide (a≥X)=false:=decide_eq_false h1;have HE:=hid (fun h=>h1 (HHS.out.1 h).1);clear h1;exact c77):p:=h
theorem c380 (h:p:=by
 by_cases h1:X≤a
 ·have g1:a≥X:=h1;have g2:IntKind.i64.wrap (a-X)=a-X:=IntWalk.i64_in _ (by omega)
  by_cases h2:a-X<Y
  ·have g3:decide (a-X<Y)=true:=decide_eq_true h2;have g4:0≤a-X:=by omega
   have g5:(a-X).tmod 256=(a-X)%256:=Int.tmod_eq_emod_of_nonneg g4;exact c45
  ·have g3:decide (a-X<Y)=false:=decide_eq_false h2;have HE:=hid (fun h=>h2 (HHS.out.1 h).2);clear h2;exact c78
 ·have g1:¬a≥X:=h1;have g1':decide (a≥X)=false:=decide_eq_false h1;have HE:=hid (fun h=>h1 (HHS.out.1 h).1);clear h1;exact c78):p:=h
theorem c381 (h:p:=by
 have HBK:=hid hblk;have Hkp:=hid hkp;clear hkp;clear hz hblk hsl hlt
 go_wp2_with fail
 go_quiet (fail)
 go_wp2_with fail
 exact zz68.down):p:=h
theorem c382 (h:p:=by
 go_roundw
 case rel=>
  refine⟨1,by first|rfl|go_num,by omega,hid ⟨?_,?_,fun j hj=>?_⟩⟩
  ·exact c29
  ·exact c10
  ·by_cases e:j<0
   ·exact Hno.out j e
   ·obtain rfl:j=0:=by omega
    exact HE.out
 case measure=>simp[intOf]):p:=h
theorem c383 (h:p:=by
 go_roundw
 case rel=>
  refine⟨2,by first|rfl|go_num,by omega,hid ⟨?_,?_,fun j hj=>?_⟩⟩
  ·exact c29
  ·exact c10
  ·by_cases e:j<1
   ·exact Hno.out j e
   ·obtain rfl:j=1:=by omega
    exact HE.out
 case measure=>simp[intOf]):p:=h
theorem c384 (h:p:=by
 go_roundw
 case rel=>
  refine⟨3,by first|rfl|go_num,by omega,hid ⟨?_,?_,fun j hj=>?_⟩⟩
  ·exact c29
  ·exact c10
  ·by_cases e:j<2
   ·exact Hno.out j e
   ·obtain rfl:j=2:=by omega
    exact HE.out
 case measure=>simp[intOf]):p:=h
theorem c385 (h:p:=by
 go_roundw
 case rel=>
  refine⟨4,by first|rfl|go_num,by omega,hid ⟨?_,?_,fun j hj=>?_⟩⟩
  ·exact c29
  ·exact c10
  ·by_cases e:j<3
   ·exact Hno.out j e
   ·obtain rfl:j=3:=by omega
    exact HE.out
 case measure=>simp[intOf]):p:=h
theorem c386 (h:p:=by
 have H4:Hid (¬(1040≤r∧r≤1071)):=hid (fun g=>absurd (hb.2 g) (by decide))
 clear hb
 go_wp2_with fail
 exact zz69.down):p:=h
theorem c387 (h:p:=by
 refine(ref5_in r 256 311 w).mono ?_;rintro e w2 ⟨b,rfl,hb,rfl⟩
 cases b with
 |true=>
  have H5:Hid ((256≤r∧r≤311)):=hid (hb.1 rfl);exact c89
 |false=>
  have H5:Hid (¬(256≤r∧r≤311)):=hid (fun g=>absurd (hb.2 g) (by decide))
  clear hb
  go_wp2_with fail
  refine(ref5_in r 330 375 w).mono ?_;rintro e w2 ⟨b,rfl,hb,rfl⟩
  cases b with
  |true=>
   have H6:Hid ((330≤r∧r≤375)):=hid (hb.1 rfl);exact c63
  |false=>
   have H6:Hid (¬(330≤r∧r≤375)):=hid (fun g=>absurd (hb.2 g) (by decide))
   clear hb
   go_wp2_with fail
   refine(ref5_in r 1120 1153 w).mono ?_;rintro e w2 ⟨b,rfl,hb,rfl⟩
   cases b with
   |true=>
    have H7:Hid ((1120≤r∧r≤1153)):=hid (hb.1 rfl);exact c46
   |false=>
    have H7:Hid (¬(1120≤r∧r≤1153)):=hid (fun g=>absurd (hb.2 g) (by decide))
    clear hb
    go_wp2_with fail
    refine(ref5_in r 1162 1215 w).mono ?_;rintro e w2 ⟨b,rfl,hb,rfl⟩
    cases b with
    |true=>
     have H8:Hid ((1162≤r∧r≤1215)):=hid (hb.1 rfl);exact c43
    |false=>
     have H8:Hid (¬(1162≤r∧r≤1215)):=hid (fun g=>absurd (hb.2 g) (by decide))
     clear hb
     go_wp2_with fail
     refine(ref5_in r 1232 1327 w).mono ?_;rintro e w2 ⟨b,rfl,hb,rfl⟩
     cases b with
     |true=>
      have H9:Hid ((1232≤r∧r≤1327)):=hid (hb.1 rfl);exact c40
     |false=>
      have H9:Hid (¬(1232≤r∧r≤1327)):=hid (fun g=>absurd (hb.2 g) (by decide))
      clear hb
      go_wp2_with fail
      refine(ref5_in r 313 328 w).mono ?_;rintro e w2 ⟨b,rfl,hb,rfl⟩
      cases b with
      |true=>
       have H10:Hid ((313≤r∧r≤328)):=hid (hb.1 rfl);exact c35
      |false=>
       have H10:Hid (¬(313≤r∧r≤328)):=hid (fun g=>absurd (hb.2 g) (by decide))
       clear hb
       go_wp2_with fail
       refine(ref5_in r 377 382 w).mono ?_;rintro e w2 ⟨b,rfl,hb,rfl⟩
       cases b with
       |true=>
        have H11:Hid ((377≤r∧r≤382)):=hid (hb.1 rfl);exact c44
       |false=>
        have H11:Hid (¬(377≤r∧r≤382)):=hid (fun g=>absurd (hb.2 g) (by decide))
        clear hb;exact c2):p:=h
theorem c388 (h:p:=by
 exact c387):p:=h
theorem c389 (h:p:=by
 have Hkp:=hid hkp;clear hkp;clear hz hblk hsl h2
 go_wp2_with fail
 go_quiet (fail)
 go_wp2_with fail
 exact zz70.down):p:=h
theorem c390 (h:p:=by
 refine(slab_at0 _).mono ?_;exact c424):p:=h
theorem c391 (h:p:=by
 refine(slab_at1 _).mono ?_;exact c424):p:=h
theorem c392 (h:p:=by
 refine(slab_at2 _).mono ?_;exact c424):p:=h
theorem c393 (h:p:=by
 refine(slab_at3 _).mono ?_;exact c424):p:=h
theorem c394 (h:p:=by
 go_region_held3 (fun w'=>(e0_15 w' (B+1+1) (I p.base.a0) (I p.base.a1) (I p.base.a2) (I p.base.a3) (I p.base.a4) (I p.base.a5) (I p.size.a0) (I p.size.a1) (I p.size.a2) (I p.size.a3) (I p.size.a4) (I p.size.a5) (I p.cells) (I p.slots) (I p.live) (w'.cell? ⟨nb,no+i,none⟩=some (I yc)))) (go_keep)
  (first
   |(go_at_call 63;refine(HTA.out _ ?_ ?_).mono ?_;(focus((repeat(first|with_reducible exact Blk.new _ _ _|with_reducible refine Blk.drew ?_|with_reducible refine Blk.drewN ?_ _|(with_reducible refine Blk.new' _ _ _ ?_;focus(simp;done))));done));(focus((repeat(first|with_reducible exact Keeps.refl _ _|with_reducible refine Keeps.drew ?_|with_reducible refine Keeps.drewN ?_ _|with_reducible refine Keeps.alloc ?_ ?_ _));all_goals(intro b hb;exact hb)));rintro e wb ⟨rfl,HBW,⟨zc0,zc1,zc2,zc3,zc4,zc5,zf0,zf1,zf2,zf3,zf4,zf5⟩,⟨q0,q1,q2,q3,q4,q5,q6,q7,q8,q9,q10,q11,q12,q13,q14,q15⟩,qa,qb⟩)
   |(go_at_call 63;refine(HTB.out _ ?_).mono ?_;(focus((repeat(first|with_reducible exact Keeps.refl _ _|with_reducible refine Keeps.drew ?_|with_reducible refine Keeps.drewN ?_ _|with_reducible refine Keeps.alloc ?_ ?_ _));all_goals(intro b hb;exact hb)));rintro e wb ⟨rfl,HBW,⟨q0,q1,q2,q3,q4,q5,q6,q7,q8,q9,q10,q11,q12,q13,q14,q15⟩,qa,qb⟩))
 all_goals
  go_wp2_with fail
  go_meet
  case rel=>
   refine⟨_,rfl,?_,?_,?_⟩
   ·first|with_reducible exact Nat.le_refl _|with_reducible exact HBW.out.size|with_reducible exact HBW.out.2.size
   ·repeat(first|with_reducible exact Blk.new _ _ _|with_reducible exact HBW.out.1.set6 _ _ _ _ _ _ rfl|with_reducible refine Blk.drew ?_)
   ·repeat(first|with_reducible exact HBW.out|with_reducible exact HBW.out.2|with_reducible refine Keeps.drew ?_|with_reducible refine Keeps.setCell ?_ ?_ _|with_reducible refine Keeps.alloc ?_ ?_ _)
    all_goals first|(intro b hb;have:=HBW.out.size;omega)|(intro b hb;have:=HBW.out.2.size;omega)|simp):p:=h
theorem c395 (h:p:=by
 clear hb;exact absurd True.intro (by have q0:=H0.out ;have q1:=H1.out ;have q2:=H2.out ;have q3:=H3.out ;have q4:=H4.out ;have q5:=H5.out ;have q6:=H6.out ;have q7:=H7.out ;have q8:=H8.out ;have q9:=H9.out ;have q10:=H10.out ;have q11:=H11.out ;have q12:=H12.out ;have q13:=H13.out ;have q14:=H14.out ;have q15:=H15.out ;have q16:=H16.out ;have q17:=H17.out ;have q18:=H18.out ;omega)):p:=h
theorem c396 (h:p:=by
 generalize p.size.g6 0=S at*;generalize u.g6 0=U at*;generalize m.g6 0=M at*;have zz115:=PLift.up @c582;exact c581):p:=h
theorem c397 (h:p:=by
 generalize p.size.g6 1=S at*;generalize u.g6 1=U at*;generalize m.g6 1=M at*;have zz115:=PLift.up @c583;exact c581):p:=h
theorem c398 (h:p:=by
 generalize p.size.g6 2=S at*;generalize u.g6 2=U at*;generalize m.g6 2=M at*;have zz115:=PLift.up @c584;exact c581):p:=h
theorem c399 (h:p:=by
 generalize p.size.g6 3=S at*;generalize u.g6 3=U at*;generalize m.g6 3=M at*;have zz115:=PLift.up @c585;exact c581):p:=h
theorem c400 (h:p:=by
 generalize p.size.g6 4=S at*;generalize u.g6 4=U at*;generalize m.g6 4=M at*;have zz115:=PLift.up @c586;exact c581):p:=h
theorem c401 (h:p:=by
 generalize p.size.g6 5=S at*;generalize u.g6 5=U at*;generalize m.g6 5=M at*;have zz115:=PLift.up @c587;exact c581):p:=h
theorem c402 (h:p:=by
 obtain⟨hT3,hB3,hK3⟩:=HW;refine(show Z 105 #[I ((3:Nat):Int)] W (fun e w'=>e= .returned (I 256)∧w'=W)from slab_call 3 (by omega) W hT3).mono ?_
 rintro e w3 ⟨rfl,rfl⟩;have HB3:=hid hB3;have HK3:=hid hK3;clear hT3 hB3 hK3 HS
 go_wp2_with fail
 go_roundw
 case rel=>exact⟨f,n'-r',256-1,3,o.up 3 256,by first|rfl|go_num,by first|rfl|go_num,by first|rfl|go_num,by omega,HNN.out.1,HNN.out.2,by omega,by omega,by simpa using HF.out,hid ⟨HB3.out,HK3.out,HBD.out,HRQ.out⟩⟩
 case measure=>obtain⟨m1,m2,m3,m4⟩:=HN.out;have mg:=HGT.out;by_cases hz:r'≤0<;>simp[intOf,hz]<;>omega):p:=h
theorem c403 (h:p:=by
 obtain⟨hT3,hB3,hK3⟩:=HW;refine(show Z 105 #[I ((1:Nat):Int)] W (fun e w'=>e= .returned (I 16)∧w'=W)from slab_call 1 (by omega) W hT3).mono ?_
 rintro e w3 ⟨rfl,rfl⟩;have HB3:=hid hB3;have HK3:=hid hK3;clear hT3 hB3 hK3 HS
 go_wp2_with fail
 go_roundw
 case rel=>exact⟨f,n'-r',16-1,2,o.up 1 16,by first|rfl|go_num,by first|rfl|go_num,by first|rfl|go_num,by omega,HNN.out.1,HNN.out.2,by omega,by omega,by simpa using HF.out,hid ⟨HB3.out,HK3.out,HBD.out,HRQ.out⟩⟩
 case measure=>obtain⟨m1,m2,m3,m4⟩:=HN.out;have mg:=HGT.out;by_cases hz:r'≤0<;>simp[intOf,hz]<;>omega):p:=h
theorem c404 (h:p:=by
 obtain⟨hT3,hB3,hK3⟩:=HW;refine(show Z 105 #[I ((2:Nat):Int)] W (fun e w'=>e= .returned (I 64)∧w'=W)from slab_call 2 (by omega) W hT3).mono ?_
 rintro e w3 ⟨rfl,rfl⟩;have HB3:=hid hB3;have HK3:=hid hK3;clear hT3 hB3 hK3 HS
 go_wp2_with fail
 go_roundw
 case rel=>exact⟨f,n'-r',64-1,3,o.up 2 64,by first|rfl|go_num,by first|rfl|go_num,by first|rfl|go_num,by omega,HNN.out.1,HNN.out.2,by omega,by omega,by simpa using HF.out,hid ⟨HB3.out,HK3.out,HBD.out,HRQ.out⟩⟩
 case measure=>obtain⟨m1,m2,m3,m4⟩:=HN.out;have mg:=HGT.out;by_cases hz:r'≤0<;>simp[intOf,hz]<;>omega):p:=h
theorem c405 (h:p:=by
 obtain⟨hT3,hB3,hK3⟩:=HW;refine(show Z 105 #[I ((0:Nat):Int)] W (fun e w'=>e= .returned (I 4)∧w'=W)from slab_call 0 (by omega) W hT3).mono ?_
 rintro e w3 ⟨rfl,rfl⟩;have HB3:=hid hB3;have HK3:=hid hK3;clear hT3 hB3 hK3 HS
 go_wp2_with fail
 go_roundw
 case rel=>exact⟨f,n'-r',4-1,1,o.up 0 4,by first|rfl|go_num,by first|rfl|go_num,by first|rfl|go_num,by omega,HNN.out.1,HNN.out.2,by omega,by omega,by simpa using HF.out,hid ⟨HB3.out,HK3.out,HBD.out,HRQ.out⟩⟩
 case measure=>obtain⟨m1,m2,m3,m4⟩:=HN.out;have mg:=HGT.out;by_cases hz:r'≤0<;>simp[intOf,hz]<;>omega):p:=h
theorem c406 (h:p:=by
 have zz113:=PLift.up @c567;exact c566):p:=h
theorem c407 (h:p:=by
 have zz113:=PLift.up @c568;exact c566):p:=h
theorem c408 (h:p:=by
 have zz113:=PLift.up @c569;exact c566):p:=h
theorem c409 (h:p:=by
 have zz113:=PLift.up @c570;exact c566):p:=h
theorem c410 (h:p:=by
 have zz113:=PLift.up @c571;exact c566):p:=h
theorem c411 (h:p:=by
 have zz113:=PLift.up @c572;exact c566):p:=h
theorem c412 (h:p:=by
 clear hb;exact absurd True.intro (by have q0:=H0.out ;have q1:=H1.out ;have q2:=H2.out ;have q3:=H3.out ;have q4:=H4.out ;have q5:=H5.out ;have q6:=H6.out ;have q7:=H7.out ;have q8:=H8.out ;have q9:=H9.out ;have q10:=H10.out ;have q11:=H11.out ;have q12:=H12.out ;have q13:=H13.out ;have q14:=H14.out ;have q15:=H15.out ;have q16:=H16.out ;have q17:=H17.out ;have q18:=H18.out ;have q19:=H19.out ;omega)):p:=h
theorem c413 (h:p:=by
 refine⟨0,X,by first|rfl|go_num,x0,by omega,hid ⟨by omega,?_,?_,fun j h=>by omega⟩⟩
 ·exact c29
 ·exact c10):p:=h
theorem c414 (h:p:=by
 obtain⟨hB3,hK3⟩:=HW;refine(slab_at3 W).mono ?_;rintro e w3 ⟨rfl,rfl⟩;have HB3:=hid hB3;have HK3:=hid hK3;clear hB3 hK3 HS
 go_wp2_with fail
 go_roundw
 case rel=>exact⟨i+1,m,256-2,3,o.up 3 256,by first|rfl|go_num,by first|rfl|go_num,by first|rfl|go_num,by omega,by omega,HIM.out,hid ⟨HB3.out,HK3.out,HBD.out,HRQ.out⟩⟩
 case measure=>have:=HLT.out;simp[intOf];omega):p:=h
theorem c415 (h:p:=by
 obtain⟨hB3,hK3⟩:=HW;refine(slab_at1 W).mono ?_;rintro e w3 ⟨rfl,rfl⟩;have HB3:=hid hB3;have HK3:=hid hK3;clear hB3 hK3 HS
 go_wp2_with fail
 go_roundw
 case rel=>exact⟨i+1,m,16-2,2,o.up 1 16,by first|rfl|go_num,by first|rfl|go_num,by first|rfl|go_num,by omega,by omega,HIM.out,hid ⟨HB3.out,HK3.out,HBD.out,HRQ.out⟩⟩
 case measure=>have:=HLT.out;simp[intOf];omega):p:=h
theorem c416 (h:p:=by
 obtain⟨hB3,hK3⟩:=HW;refine(slab_at2 W).mono ?_;rintro e w3 ⟨rfl,rfl⟩;have HB3:=hid hB3;have HK3:=hid hK3;clear hB3 hK3 HS
 go_wp2_with fail
 go_roundw
 case rel=>exact⟨i+1,m,64-2,3,o.up 2 64,by first|rfl|go_num,by first|rfl|go_num,by first|rfl|go_num,by omega,by omega,HIM.out,hid ⟨HB3.out,HK3.out,HBD.out,HRQ.out⟩⟩
 case measure=>have:=HLT.out;simp[intOf];omega):p:=h
theorem c417 (h:p:=by
 obtain⟨hB3,hK3⟩:=HW;refine(slab_at0 W).mono ?_;rintro e w3 ⟨rfl,rfl⟩;have HB3:=hid hB3;have HK3:=hid hK3;clear hB3 hK3 HS
 go_wp2_with fail
 go_roundw
 case rel=>exact⟨i+1,m,4-2,1,o.up 0 4,by first|rfl|go_num,by first|rfl|go_num,by first|rfl|go_num,by omega,by omega,HIM.out,hid ⟨HB3.out,HK3.out,HBD.out,HRQ.out⟩⟩
 case measure=>have:=HLT.out;simp[intOf];omega):p:=h
theorem c418 (h:p:=by
 obtain⟨d0,d1,d2,d3,d4,d5,d6,d7,d8,d9,d10,d11,d12,d13,d14⟩:=hD.c15;refine bodyPost_ret (v:= .tuple #[.agg #[I 0,I 0,I 0,I 0,I 0,I 0,I 0,I 0,I 0,I 0,I 0,I 0,I 0,I 0,I 0],I 1]) ?_ rfl ?_
 ·exact c630
 ·exact hR'.out _ _ ⟨rfl,hkk⟩):p:=h
theorem c419 (h:p:=by
 have he:=HnP.out h128 (Or.inr (Or.inl (by rw[hk];omega)))
 injection he with e1 e2
 subst e1 e2;clear hk hln h192 h128 hsz;exact c58):p:=h
theorem c420 (h:p:=by
 go_wp2_with fail
 refine(slab_at3 _).mono ?_;rintro e w2 ⟨rfl,rfl⟩
 go_wp2_with fail
 go_roundw
 case rel=>
  refine⟨i+1,z+256,by first|rfl|go_num,by omega,by omega,hid ⟨HR.out.1,?_,?_,HR.out.2⟩⟩
  ·exact c29
  ·exact c10
 case measure=>have:=HLT.out;simp[intOf];omega):p:=h
theorem c421 (h:p:=by
 go_wp2_with fail
 refine(slab_at1 _).mono ?_;rintro e w2 ⟨rfl,rfl⟩
 go_wp2_with fail
 go_roundw
 case rel=>
  refine⟨i+1,z+16,by first|rfl|go_num,by omega,by omega,hid ⟨HR.out.1,?_,?_,HR.out.2⟩⟩
  ·exact c29
  ·exact c10
 case measure=>have:=HLT.out;simp[intOf];omega):p:=h
theorem c422 (h:p:=by
 go_wp2_with fail
 refine(slab_at2 _).mono ?_;rintro e w2 ⟨rfl,rfl⟩
 go_wp2_with fail
 go_roundw
 case rel=>
  refine⟨i+1,z+64,by first|rfl|go_num,by omega,by omega,hid ⟨HR.out.1,?_,?_,HR.out.2⟩⟩
  ·exact c29
  ·exact c10
 case measure=>have:=HLT.out;simp[intOf];omega):p:=h
theorem c423 (h:p:=by
 go_wp2_with fail
 refine(slab_at0 _).mono ?_;rintro e w2 ⟨rfl,rfl⟩
 go_wp2_with fail
 go_roundw
 case rel=>
  refine⟨i+1,z+4,by first|rfl|go_num,by omega,by omega,hid ⟨HR.out.1,?_,?_,HR.out.2⟩⟩
  ·exact c29
  ·exact c10
 case measure=>have:=HLT.out;simp[intOf];omega):p:=h
theorem c424 (h:p:=by
 rintro e w2 ⟨rfl,rfl⟩
 go_wp2_with fail
 refine hR'.out _ _ ⟨?_,?_⟩
 ·rw[HE.out];rfl
 ·exact c10):p:=h
theorem c425 (h:p:=by
 have he:=Hsm.out.2 (fun h=>by rw[hv]at h;exact absurd h.1 (by decide))
 injection he with e1 e2
 subst e1 e2;clear hv;exact c58):p:=h
theorem c426 (h:p:=by
 have hm:classM r=1:=by have q0:=H0.out ;have q1:=H1.out ;have q2:=H2.out ;have q3:=H3.out ;have q4:=H4.out ;have q5:=H5.out ;have q6:=H6.out ;rw[classM_ifs] ;omega
 clear H0 H1 H2 H3 H4 H5 H6;exact c22):p:=h
theorem c427 (h:p:=by
 have he:=HnP.out H128.out (Or.inr (Or.inr ⟨j+1,by omega,by rw[Hk.out];omega,by rw[hcb];omega⟩))
 injection he with e1 e2
 subst e1 e2;clear hcb hacc hcb2;generalize accN s i j=n at*
 go_wp2_with fail
 exact hR'.out _ _ ⟨rfl,Keeps.refl _ _⟩):p:=h
theorem c428 (h:p:=by
 repeat(first|with_reducible exact HKW.out|with_reducible refine Keeps.drew ?_|with_reducible refine Keeps.setCell ?_ ?_ _|with_reducible refine Keeps.alloc ?_ ?_ _)
 all_goals first|(intro b hb;have:=HKW.out.size;omega)|simp):p:=h
theorem c429 (h:p:=by
 have Hr:=hid hr;clear hr
 go_wp2_with fail
 refine hR'.out _ _ ⟨?_,HK1.out⟩;exact c59):p:=h
theorem c430 (h:p:=by
 have:=h.cells (g:=b) (by rw[h1];rfl) j u hu
 have ea:(⟨b,0,none⟩:Addr).add j=⟨b,j,none⟩:=by unfold Addr.add;split<;>simp_all
 rw[Nat.zero_add,←ea];exact this):p:=h
theorem c431 (h:p:=by
 have hm:foldM r=r+32:=by have q0:=H0.out ;have q1:=H1.out ;have q2:=H2.out ;have q3:=H3.out ;rw[foldM_ifs] ;omega
 clear H0 H1 H2 H3;exact c11):p:=h
theorem c432 (h:p:=by
 obtain rfl:k=6:=by omega
 clear hb0 hb1 hb2
 go_wp2_with fail
 refine hR'.out _ _ ⟨?_,?_⟩
 ·rw[(fitsP_iff p u m HU.out).2 Hno.out];rfl
 ·exact c10):p:=h
theorem c433 (h:p:=by
 refine calls_hide fun R' hR'=>?_
 go_enter Tryz.func39,Tryz.ntmps39
 exact c84):p:=h
theorem c434 (h:p:=by
 go_enter Tryz.func94,Tryz.ntmps94
 exact c80):p:=h
theorem c435 (h:p:=by
 clear H0 H1 H2 H3 H4 H5 H6 H7 H8 H9 H10 H11 H12 H13 H14 H15 H16 H17 H18;exact c11):p:=h
theorem c436 (h:p:=by
 have hl4I:(4:Int)<(fs.length:Int):=by omega
 have hr:res=none:=by rw[Hres.out];unfold toksM longF;simp[hl4]
 exact c51):p:=h
theorem c437 (h:p:=by
 have zz156:=PLift.up @c743;exact c742):p:=h
theorem c438 (h:p:=by
 have zz133:=PLift.up @c651;exact c649):p:=h
theorem c439 (h:p:=by
 exact zz2.down):p:=h
theorem c440 (h:p:=by
 have hge:¬docs≤(ld:Int):=by have:=Hcdo.out;omega
 have hgb:decide ((ld:Int)≥docs)=false:=decide_eq_false hge;have hgb2:decide (docs≤(ld:Int))=false:=decide_eq_false hge
 (try dsimp only at hs0)
 rw[Hcdo.out]at hs0;have hw2:IntKind.i64.wrap (la+1)=la+1:=IntWalk.i64_in _ (by omega)
 have hw3:IntKind.i64.wrap (4*docs)=4*docs:=IntWalk.i64_in _ (by omega)
 have hw4:IntKind.i64.wrap (la+1+4*docs)=(s0:Int):=by rw[IntWalk.i64_in _ (by omega)];exact hs0
 obtain⟨hv0,hv1⟩:=hv;obtain⟨hwt0,hwt1⟩:=hwt0;have Hs0:=hid hs0;clear hx hs0;have htsm:=toksM_small htk;have Htsm:=hid htsm;have htn:=htsm.2;clear htsm;have hlen:=congrArg List.length hall;rw[List.length_map]at hlen;have hall64:all.length≤64:=by have:=keysL_len toks [];simp only[List.length_nil]at this;omega
 have hkeys:=fun W A c K hb hs=>ref12_keys toks A c W K hb hs (fun t ht=>⟨(Htsm.out.1 t ht).1,by have:=(Htsm.out.1 t ht).2;omega⟩) (by omega)
 rw[←hall,List.length_map]at hkeys;have Hkeys:=hid hkeys;have Hall:=hid hall;have Hlen:=hid hlen;clear hkeys hall hlen htk hq;have HS3:=hid hS3;have HLB:=hid hLB;have Hto4:=hid hto4;have Hlbt:=hid hlbt;have HP:=hid hP;have Hl:=hid hl;have Hpf:=hid hpf;have Hu:=hid hu;have Hlk:=hid hlk;have Hnd:=hid hnd;clear hS3 hLB hto4 hlbt hP hl hpf hu hlk hnd
 go_wp2_with fail
 refine(Hkeys.out w3 TA tc (fun b=>(Value.slice TA toks.length tc).ownBlock=some b) (fun b hb=>own_ne Hto4.out b hb) (own_slAtL Hto4.out)).mono ?_;rintro e w4 ⟨kv1,kv2,rfl,hTwo⟩;obtain⟨KA,kc1,rfl⟩:=ownB_form hTwo.o1;obtain⟨KA2,kc2,rfl⟩:=ownB_form hTwo.o2;have hk4:=hTwo.keeps;have hS4:=HS3.out.calls hk4;have hLB4:=HLB.out.keep hk4 HLB.out.lt;have hto5:=own_of_keep Hto4.out hk4 fun b hb=>own_ne Hto4.out b hb
 clear HS3 HLB Hto4 v0 v1 v2 c0 hk4 hgb hgb2 Hkeys hw2 hw3 hw4;have HS4:=hid hS4;have HLB4:=hid hLB4;have Hto5:=hid hto5;have HTwo:=hid hTwo;clear hS4 hLB4 hto5 hTwo
 go_upto_region 14 with fail
 have hka:Keeps (· <w4.heap.size) w4 (w4.alloc (.cells #[I 0,I 0,I 0,I 0,I 0,I 0] 40)):=(Keeps.refl _ _).alloc (fun b hb=>hb) _;have hM0:=Blk.new w4 [I 0,I 0,I 0,I 0,I 0,I 0] 40;have hS5:=HS4.out.calls hka;have hLB5:=HLB4.out.keep hka HLB4.out.lt;have hTO5:=own_of_keep Hto5.out hka fun b hb=>own_ne Hto5.out b hb;have hKA5:=((own_slAtL HTwo.out.o1).keep hka fun b hb=>(ownB_lt HTwo.out.o1 hb).2).mono fun b hb=>(ownB_lt HTwo.out.o1 hb).2
 have hKC5:=((own_slAtL HTwo.out.o2).keep hka fun b hb=>(ownB_lt HTwo.out.o2 hb).2).mono fun b hb=>(ownB_lt HTwo.out.o2 hb).2;have hToM:∀b,(Value.slice TA toks.length tc).ownBlock=some b→b<w4.heap.size:=fun b hb=>own_ne Hto5.out b hb;have hBM:=HS4.out.b4.lt;have hLM:=HLB4.out.lt;have hMs:=World.size_alloc w4 (.cells #[I 0,I 0,I 0,I 0,I 0,I 0] 40);generalize hMBe:w4.heap.size=MB at*
 generalize w4.alloc (.cells #[I 0,I 0,I 0,I 0,I 0,I 0] 40)=w5 at*;clear HS4 HLB4 Hto5 HTwo hka hMBe;obtain⟨A',cap,q1,q2,q3,q4,q5⟩:=Hsl.out;injection q1 with q1 _ q1c
 subst q1 q1c;obtain⟨cb,co,rfl,hcb,hcell⟩:=q5 hn0;have hcbB:=Hb.out cb hcb;have Hcell:=hid hcell;clear q2 q3 q4 q5 hcell hcb;have hM0:Blk w5 MB (V6.list6 zero6):=hM0;have hMl:MB<w5.heap.size:=by omega
 clear hMs;have HS5:=hid hS5;have HLB5:=hid hLB5;have HTO5:=hid hTO5;have HKA5:=hid hKA5;have HKC5:=hid hKC5;have HToM:=hid hToM;have HM0:=hid hM0;clear hS5 hLB5 hTO5 hKA5 hKC5 hToM hM0
 go_wp2_with fail
 exact zz72.down):p:=h
theorem c441 (h:p:=by
 exact zz4.down):p:=h
theorem c442 (h:p:=by
 go_loopw[19,84] (fun fv iv wx=>∃(i:Nat) (fr9:Int) (more:V6),fv=I fr9∧iv=I (i:Int)∧i≤all.length∧(0≤fr9∧fr9≤(i:Int))∧more.in (20000*(i:Int))∧Hid (needsP p (all.drop i) fr9 more=(fr,⟨m0,m1,m2,m3,m4,m5⟩))∧Hid (Blk wx MB more.list6)∧Hid (Keeps (fun b=>b<MB) w5 wx)∧MB<wx.heap.size) (fun _ iv _=>all.length-(intOf iv).toNat)
 case atStart=>exact⟨0,0,zero6,rfl,rfl,Nat.zero_le _,⟨by decide,by decide⟩,by unfold zero6 V6.in;decide,Hnd,HM0,hid (Keeps.refl _ _),hMl⟩
 case round=>
  clear HM0 hMl;obtain⟨i,fr9,more,rfl,rfl,hi,⟨hf0,hf1⟩,hmi,HN,HM,HK,hszw⟩:=hrel
  by_cases hlt:i<all.length
  ·exact c1
  ·obtain rfl:i=all.length:=by omega
   have zz159:=PLift.up @c752;exact c751):p:=h
theorem c443 (h:p:=by
 have zz156:=PLift.up @c744;exact c742):p:=h
theorem c444 (h:p:=by
 subst hpo;have hsz:=hkA.size;have hB0:=hA0.keep hk1 hA0.lt;have hB1:=hA1.keep hk1 hA1.lt;have hB2:=hA2.keep hk1 hA2.lt;have hB3:=hA3.keep hk1 hA3.lt;have hkw:Keeps (· <B) w w1:=hkA.trans (hk1.mono fun b hb=>by omega)
 have hkg:=H.out.moreB (w':=w1) (by rw[hBB];exact hkw)
 rw[hBB]at hkg;have hD:A1 w w1 K (fun b=>K b∨(B≤b∧b<w1.heap.size)) r m c B cf ⟨segs,wt,wv,⟨u0,u1,u2,u3,u4,u5⟩⟩ (.slice (some ⟨b0,o0,none⟩) segs.length cp) [J id,.slice FA fs.length fc] s:=⟨hkg,hkw.mono Hltt.out,fun b hb=>Or.inl hb,fun b h1 h2=>Or.inr ⟨h1,by have:=hB3.lt;omega⟩,Hltt.out,hB0,hB1,hB2,hB3⟩
 clear hkg hA0 hA1 hA2 hA3 hkA hk1 hsz hB0 hB1 hB2 hB3 hkw hF0 hfl0;have hc1:=(hD).b1;unfold WrM.vals at hc1;dsimp only at hc1;obtain⟨y0,y1,y2,y3,y4,y5,y6,y7,y8⟩:=hc1.c9;have hz:=(hD).b3;unfold zer9 at hz;obtain⟨z0,z1,z2,z3,z4,z5,z6,z7,z8⟩:=hz.c9;have f:=hz.free;clear hc1 hz;have HKG:=hid (show∀b,K b→(fun b=>K b∨(B≤b∧b<w1.heap.size)) b from fun b hb=>Or.inl hb)
 have HD:=hid hD;have HBB:=hid hBB;clear hD hBB
 go_wp2_with fail
 obtain⟨hE,hrr,hkk,hk0⟩:=(HD.out).out;unfold WrM.vals at hE;dsimp only at hE hrr hkk hk0;clear y0 y1 y2 y3 y4 y5 y6 y7 y8 z0 z1 z2 z3 z4 z5 z6 z7 z8 f;generalize (((((((((w1.setCell ⟨B+1+1+1,0,none⟩ (.slice (some ⟨b0,o0,none⟩) segs.length cp)).setCell ⟨B+1+1+1,1,none⟩ (I wt)).setCell ⟨B+1+1+1,2,none⟩ (J wv)).setCell ⟨B+1+1+1,3,none⟩ (I u0)).setCell ⟨B+1+1+1,4,none⟩ (I u1)).setCell ⟨B+1+1+1,5,none⟩ (I u2)).setCell ⟨B+1+1+1,6,none⟩ (I u3)).setCell ⟨B+1+1+1,7,none⟩ (I u4)).setCell ⟨B+1+1+1,8,none⟩ (I u5))=WZ at*
 obtain⟨d0,d1,d2,d3,d4,d5,d6,d7,d8⟩:=hE.c9;refine bodyPost_ret (v:= .tuple #[.agg #[.slice (some ⟨b0,o0,none⟩) segs.length cp,I wt,J wv,I u0,I u1,I u2,I u3,I u4,I u5],I 4]) ?_ rfl ?_
 ·exact c73
 ·exact c100):p:=h
theorem c445 (h:p:=by
 have zz127:=PLift.up @c633;exact c631):p:=h
theorem c446 (h:p:=by
 have hF:=blk_out15 hB2 rfl (I p.base.a0) (I p.base.a1) (I p.base.a2) (I p.base.a3) (I p.base.a4) (I p.base.a5) (I p.size.a0) (I p.size.a1) (I p.size.a2) (I p.size.a3) (I p.size.a4) (I p.size.a5) (I p.cells) (I p.slots) (I p.live);have hk2:=keeps_out15 (b:=B+1+1) hkk (fun h=>by have h:B+1+1<B:=h;omega) (I p.base.a0) (I p.base.a1) (I p.base.a2) (I p.base.a3) (I p.base.a4) (I p.base.a5) (I p.size.a0) (I p.size.a1) (I p.size.a2) (I p.size.a3) (I p.size.a4) (I p.size.a5) (I p.cells) (I p.slots) (I p.live)
 have hkm:=keeps_out15 (K:=(· ≠B+1+1)) (b:=B+1+1) (Keeps.refl _ WY) (fun h=>h rfl) (I p.base.a0) (I p.base.a1) (I p.base.a2) (I p.base.a3) (I p.base.a4) (I p.base.a5) (I p.size.a0) (I p.size.a1) (I p.size.a2) (I p.size.a3) (I p.size.a4) (I p.size.a5) (I p.cells) (I p.slots) (I p.live);have hE:=hE.keep hkm (by show B+1≠B+1+1;omega)
 have hE:=hE.drew;have hF:=hF.drew;have hk3:=hk2.drew;have hkz:=((hkn.mono (K':=fun b=>b≠B+1∧b≠B+1+1) fun b hb=>hb.1).trans (hkm.mono fun b hb=>hb.2)).drew;generalize ((((((((((((((((WY.setCell ⟨B+1+1,0,none⟩ (I p.base.a0)).setCell ⟨B+1+1,1,none⟩ (I p.base.a1)).setCell ⟨B+1+1,2,none⟩ (I p.base.a2)).setCell ⟨B+1+1,3,none⟩ (I p.base.a3)).setCell ⟨B+1+1,4,none⟩ (I p.base.a4)).setCell ⟨B+1+1,5,none⟩ (I p.base.a5)).setCell ⟨B+1+1,6,none⟩ (I p.size.a0)).setCell ⟨B+1+1,7,none⟩ (I p.size.a1)).setCell ⟨B+1+1,8,none⟩ (I p.size.a2)).setCell ⟨B+1+1,9,none⟩ (I p.size.a3)).setCell ⟨B+1+1,10,none⟩ (I p.size.a4)).setCell ⟨B+1+1,11,none⟩ (I p.size.a5)).setCell ⟨B+1+1,12,none⟩ (I p.cells)).setCell ⟨B+1+1,13,none⟩ (I p.slots)).setCell ⟨B+1+1,14,none⟩ (I p.live))).drew=WZ at*
 obtain⟨d0,d1,d2,d3,d4,d5,d6,d7,d8,d9⟩:=hE.c10;obtain⟨e0,e1,e2,e3,e4,e5,e6,e7,e8,e9,e10,e11,e12,e13,e14⟩:=hF.c15;exact zz74.down):p:=h
theorem c447 (h:p:=by
 refine bodyPost_ret (v:= .tuple #[.agg #[.slice none 0 0,.slice none 0 0,I 0,J 0,I 0,I 0,I 0,I 0,I 0,I 0],.agg #[I p.base.a0,I p.base.a1,I p.base.a2,I p.base.a3,I p.base.a4,I p.base.a5,I p.size.a0,I p.size.a1,I p.size.a2,I p.size.a3,I p.size.a4,I p.size.a5,I p.cells,I p.slots,I p.live],I 3]) ?_ rfl ?_
 ·exact c145
 ·exact hR'.out _ _ ⟨rfl,hk3⟩):p:=h
theorem c448 (h:p:=by
 refine bodyPost_ret (v:= .tuple #[.agg #[.slice (some ⟨NB,0,none⟩) n n,.slice (some ⟨GB,0,none⟩) 1 1,I 0,J 0,I 0,I 0,I 0,I 0,I 0,I ((lv:Int)+2)],.agg #[I p.base.a0,I p.base.a1,I p.base.a2,I p.base.a3,I p.base.a4,I p.base.a5,I p.size.a0,I p.size.a1,I p.size.a2,I p.size.a3,I p.size.a4,I p.size.a5,I p.cells,I p.slots,I p.live],I 0]) ?_ rfl ?_
 ·exact c145
 ·rw[Hlv.out]at hR';refine hR'.out _ _ ⟨NB,GB,rfl,by omega,by omega,?_,?_,hk3⟩
  ·have h9:=HNB.out.keep hkz ⟨by omega,by omega⟩
   rw[Ha5.out];rw[show((a5:Int)+(lv:Int)).toNat=a5+lv from by omega,show((a5:Int)+(lv:Int)+1).toNat=a5+lv+1 from by omega]
   simp only[List.map_set,List.map_replicate];exact h9
  ·rw[Ha5.out];exact HGB.out.keep hkz ⟨by omega,by omega⟩):p:=h
theorem c449 (h:p:=by
 have hcell:=(hN4.cell (a+1)).trans hold;have hfr:=hN4.free (a+1);have hst:=hN4.set (a+1) (J wd);rw[←List.map_set]at hst;have hF1:=hE1.set_ne (a:=⟨NB,a+1,none⟩) (J wd) (by show B+1≠NB;omega)
 have hF2:=hE2.set_ne (a:=⟨NB,a+1,none⟩) (J wd) (by show B+1+1≠NB;omega)
 have hF3:=hBk.set_ne (a:=⟨NB,a+1,none⟩) (J wd) h3N;have hkF:=hkE.setCell (p:=⟨NB,a+1,none⟩) (fun h=>by have h:NB<B:=h;omega) (J wd)
 clear hold hE1 hE2 hBk hN4 hkE hlx;have Hst:=hid hst;have HF1:=hid hF1;have HF2:=hid hF2;have HF3:=hid hF3;have HkF:=hid hkF;clear hst hF1 hF2 hF3 hkF
 go_upto_region 14 with fail
 generalize w6.setCell ⟨NB,a+1,none⟩ (J wd)=w9 at*;clear hcell hfr hin hin0 hd0 hd1;have hc1:=HF1.out;obtain⟨y0,y1,y2,y3,y4,y5⟩:=hc1.c6;have hc2:=HF2.out;obtain⟨z0,z1,z2,z3,z4,z5⟩:=hc2.c6;have f:=hc2.free;clear hc1 hc2
 go_region
 iterate 2 (first|go_values|go_skip|go_guarded|go_step|go_upon|go_back)
 go_step
 have hE:=(HF2.out.set6 (I n0) (I n1) (I n2) (I n3) (I n4) (I n5) rfl).drew;have hkk:=(HkF.out.set6 (b:=B+1+1) (I n0) (I n1) (I n2) (I n3) (I n4) (I n5) (by omega)).drew
 have hNN:=(Hst.out.set6_ne (b:=B+1+1) (I n0) (I n1) (I n2) (I n3) (I n4) (I n5) (by omega)).drew
 generalize ((((((w9.setCell ⟨B+1+1,0,none⟩ (I n0)).setCell ⟨B+1+1,1,none⟩ (I n1)).setCell ⟨B+1+1,2,none⟩ (I n2)).setCell ⟨B+1+1,3,none⟩ (I n3)).setCell ⟨B+1+1,4,none⟩ (I n4)).setCell ⟨B+1+1,5,none⟩ (I n5)).drew=WZ at*;obtain⟨d0,d1,d2,d3,d4,d5⟩:=hE.c6;exact zz75.down):p:=h
theorem c450 (h:p:=by
 refine bodyPost_ret (v:= .tuple #[.slice (some ⟨NB,0,none⟩) cs.length cs.length,I ((a:Int)+1),.agg #[I n0,I n1,I n2,I n3,I n4,I n5],I 0]) ?_ rfl ?_
 ·simp[results,Tryz.results95,go_sem,d0,d1,d2,d3,d4,d5]
 ·exact hR'.out _ _ ⟨NB,rfl,by omega,by unfold putMem;rw[if_pos rfl];exact hNN,hkk⟩):p:=h
theorem c451 (h:p:=by
 refine bodyPost_ret (v:= .tuple #[.slice (some ⟨NB,0,none⟩) cs.length cs.length,I ((a:Int)+1),.agg #[I n0,I n1,I n2,I n3,I n4,I n5],I 0]) ?_ rfl ?_
 ·simp[results,Tryz.results95,go_sem,d0,d1,d2,d3,d4,d5]
 ·exact hR'.out _ _ ⟨NB,rfl,by omega,by unfold putMem;rw[if_neg ht0];exact hNN,hkk⟩):p:=h
theorem c452 (h:p:=by
 unfold ConfM.list six at*;simp only[szC]at hS;have HS:=hid hS;have Hb6:=hid hb6;clear hS hb6;refine calls_hide fun R' hR'=>?_
 go_enter Tryz.func28,Tryz.ntmps28
 go_wp2_with fail
 refine calls_gen (fun W=>Blk W w.heap.size [I docs,I terms,I s0,I s1,I s2,I s3,I book,I room,kk,bb]∧Blk W (w.heap.size+1) [I 0,I 0,I 0,I 0,I 0,I 0,I 0,I 0,I 0,I 0,I 0,I 0,I 0,I 0,I 0]∧Keeps (· <w.heap.size) w W) ⟨?_,?_,?_⟩ ?_
 ·exact bA
 ·exact nA
 ·exact kA
 rintro W ⟨hB0,hB1,hk⟩;refine(HS.out W).mono ?_;rintro e w1 ⟨rfl,hk1⟩;have hl0:=hB0.lt;have hC0:=hB0.keep hk1 hl0;have hkk:=hk.trans (hk1.mono fun b hb=>by omega)
 obtain⟨c0,c1,c2,c3,c4,c5,c6,c7,c8,c9⟩:=hC0.c10
 go_wp2_with fail
 have hz1:=hk1.size;have lb1:=hB1.lt;have hC1:=hB1.keep hk1 lb1;refine wp_gen (fun W=>Blk W w.heap.size [I docs,I terms,I s0,I s1,I s2,I s3,I book,I room,kk,bb]∧Blk W w1.heap.size [I (4*s0),I (16*s1),I (64*s2),I (256*s3),I book,I room]∧Blk W (w1.heap.size+1) [I 0,I 0,I 0,I 0,I 0,I 0,I (4*s0),I (16*s1),I (64*s2),I (256*s3),I book,I room,I 0,I 128,I 0]∧Blk W (w.heap.size+1) [I 0,I 0,I 0,I 0,I 0,I 0,I 0,I 0,I 0,I 0,I 0,I 0,I 0,I 0,I 0]∧Keeps (· <w.heap.size) w W) ⟨?_,?_,?_,?_,?_⟩ ?_
 ·exact bA
 ·exact bA
 ·exact bA
 ·exact bA
 ·exact kA
 have hbs:w.heap.size+1<w1.heap.size:=by omega
 generalize w1.heap.size=bs at*;clear hB0 hB1 hC0 hC1 hkk hk hk1 c0 c1 c2 c3 c4 c5 c6 c7 c8 c9;rintro W2 ⟨hC0,hD0,hD1,hD2,hk⟩;generalize hb:w.heap.size=b at*;have Hb:=hid hb;clear hb;exact zz76.down):p:=h
theorem c453 (h:p:=by
 go_loopw[7,8] (fun at' kv wr=>∃k:Nat,k≤6∧kv=I k∧at'=I (baseC ⟨docs,terms,s0,s1,s2,s3,book,room,kk,bb⟩ k)∧Blk wr b [I docs,I terms,I s0,I s1,I s2,I s3,I book,I room,kk,bb]∧Blk wr bs [I (4*s0),I (16*s1),I (64*s2),I (256*s3),I book,I room]∧
  Blk wr (bs+1) [I (upto k (baseC ⟨docs,terms,s0,s1,s2,s3,book,room,kk,bb⟩) 0),I (upto k (baseC ⟨docs,terms,s0,s1,s2,s3,book,room,kk,bb⟩) 1),I (upto k (baseC ⟨docs,terms,s0,s1,s2,s3,book,room,kk,bb⟩) 2),I (upto k (baseC ⟨docs,terms,s0,s1,s2,s3,book,room,kk,bb⟩) 3),I (upto k (baseC ⟨docs,terms,s0,s1,s2,s3,book,room,kk,bb⟩) 4),I (upto k (baseC ⟨docs,terms,s0,s1,s2,s3,book,room,kk,bb⟩) 5),I (4*s0),I (16*s1),I (64*s2),I (256*s3),I book,I room,I 0,I 128,I 0]∧Blk wr (b+1) [I 0,I 0,I 0,I 0,I 0,I 0,I 0,I 0,I 0,I 0,I 0,I 0,I 0,I 0,I 0]∧Keeps (· <b) w wr) (fun _ kv _=>6-(intOf kv).toNat)
 case atStart=>exact⟨0,by omega,rfl,rfl,hC0,hD0,hD1,hD2,hk⟩
 case round=>
  clear hC0 hD0 hD1 hD2 hk;obtain⟨k,hk6,rfl,rfl,hC0,hD0,hD1,hD2,hkr⟩:=hrel
  rcases(by omega:k=0∨k=1∨k=2∨k=3∨k=4∨k=5∨k=6)with rfl|rfl|rfl|rfl|rfl|rfl|rfl
  ·simp only[baseC,szC,upto,Nat.lt_irrefl,Nat.not_lt_zero,if_true,if_false,Nat.zero_lt_succ,Nat.reduceLT]at*;have zz63:=PLift.up @c357;exact c356
  ·simp only[baseC,szC,upto,Nat.lt_irrefl,Nat.not_lt_zero,if_true,if_false,Nat.zero_lt_succ,Nat.reduceLT]at*;have zz63:=PLift.up @c358;exact c356
  ·simp only[baseC,szC,upto,Nat.lt_irrefl,Nat.not_lt_zero,if_true,if_false,Nat.zero_lt_succ,Nat.reduceLT]at*;have zz63:=PLift.up @c359;exact c356
  ·simp only[baseC,szC,upto,Nat.lt_irrefl,Nat.not_lt_zero,if_true,if_false,Nat.zero_lt_succ,Nat.reduceLT]at*;have zz63:=PLift.up @c360;exact c356
  ·simp only[baseC,szC,upto,Nat.lt_irrefl,Nat.not_lt_zero,if_true,if_false,Nat.zero_lt_succ,Nat.reduceLT]at*;have zz63:=PLift.up @c361;exact c356
  ·simp only[baseC,szC,upto,Nat.lt_irrefl,Nat.not_lt_zero,if_true,if_false,Nat.zero_lt_succ,Nat.reduceLT]at*;have zz63:=PLift.up @c362;exact c356
  ·simp only[upto,if_true,Nat.reduceLT]at hD1;have zz134:=PLift.up @c653;exact c652):p:=h
theorem c454 (h:p:=by
 exact zz10.down):p:=h
theorem c455 (h:p:=by
 obtain⟨B3,rfl,rfl,rfl,hB3,hBk,hkc⟩:=hcut;obtain⟨-,hB1',hB2',hkw,-⟩:=hW1.out;have hB1:=hB1'.keep hkc hB1'.lt;have hB2:=hB2'.keep hkc hB2'.lt;have hkwc:Keeps (· <B) w wc:=hkw.trans (hkc.mono fun b hb=>by have:=hB1'.lt;omega)
 have hR1:=H.out.moreB (by rw[hBB];exact hkwc)
 rw[hBB]at hR1;have h13:B+1≠B3:=by have:=hB1'.lt;omega
 have h23:B+1+1≠B3:=by have:=hB2'.lt;omega
 have hg1:K (B+1)∨(B≤B+1∧B+1<wc.heap.size):=Or.inr ⟨by omega,hB1.lt⟩
 have hg2:K (B+1+1)∨(B≤B+1+1∧B+1+1<wc.heap.size):=Or.inr ⟨by omega,hB2.lt⟩
 have hg3:K B3∨(B≤B3∧B3<wc.heap.size):=Or.inr ⟨by have:=hB1'.lt;omega,hBk.lt⟩
 generalize hK1:(fun b=>K b∨(B≤b∧b<wc.heap.size))=K1 at*;have hKK:∀b,K b→K1 b:=by rw[←hK1];exact fun b hb=>Or.inl hb
 have hg1':K1 (B+1):=by rw[←hK1];exact hg1
 have hg2':K1 (B+1+1):=by rw[←hK1];exact hg2
 have hg3':K1 B3:=by rw[←hK1];exact hg3
 have hlt':∀b,K b→b<B:=HLT.out;have hkK:Keeps K w wc:=hkwc.mono hlt';clear hK1 hg1 hg2 hg3 hB1' hB2' hkw hkc hkwc hBB;have HKK:=hid hKK;have Hg1':=hid hg1';have Hg2':=hid hg2';have Hg3':=hid hg3';have Hlt':=hid hlt';have HkK:=hid hkK;have HB1:=hid hB1;have HB2:=hid hB2;have HBk:=hid hBk;have HR1:=hid hR1;clear hKK hg1' hg2' hg3' hlt' hkK hB1 hB2 hBk hR1;clear HSS HZZ HTA HTB HTk HSL
 exact zz77.down):p:=h
theorem c456 (h:p:=by
 by_cases ht0:t=0
 ·subst ht0;have hB1:=HB1.out;have hB2:=HB2.out;have hBk:=HBk.out;have hkf:=HkK.out;have HRd:=hid HR1.out;unfold V6.list at hBk;obtain⟨d0,d1,d2,d3,d4,d5⟩:=hB1.c6;obtain⟨e0,e1,e2,e3,e4,e5⟩:=hBk.c6;have f1:=hB1.free
  go_wp2_with fail
  refine calls_gen (fun W=>Blk W (B+1) [I nu.a0,I nu.a1,I nu.a2,I nu.a3,I nu.a4,I nu.a5]∧Blk W (B+1+1) [I 0,I 0,I 0,I 0,I 0,I 0]∧RM W K1 r m c s∧Keeps K w W) ⟨?_,?_,?_,?_⟩ (fun W2 HW2=>?_)
  ·exact hB1.set6 _ _ _ _ _ _ rfl
  ·exact hB2.set6_ne _ _ _ _ _ _ (by omega)
  ·exact c141
  ·exact hkf.set6 _ _ _ _ _ _ (fun hb=>by have:=Hlt'.out _ hb;omega)
  have zz146:=PLift.up @c692;exact c691
 ·skip
  have g0:(t !=0)=true:=by simpa using ht0
  obtain⟨ht1,ht2⟩:=HTR.out;have g1:IntKind.u32.wrap t=t:=IntWalk.u32_in _ ⟨ht1,by omega⟩
  have HT0:=hid ht0;clear ht0
  go_wp2_with fail
  refine(step_store HR1.out ad t (by unfold U32;omega)).mono ?_
  rintro e wd ⟨rfl,hrd,hkd⟩;have hB1:=HB1.out.keep hkd Hg1'.out;have hB2:=HB2.out.keep hkd Hg2'.out;have hBk:=HBk.out.keep hkd Hg3'.out;have hkf:=HkK.out.trans (hkd.mono HKK.out);have HRd:=hid hrd;clear hrd hkd;unfold V6.list at hBk;obtain⟨d0,d1,d2,d3,d4,d5⟩:=hB1.c6;obtain⟨e0,e1,e2,e3,e4,e5⟩:=hBk.c6;have f1:=hB1.free
  go_wp2_with fail
  refine calls_gen (fun W=>Blk W (B+1) [I nu.a0,I nu.a1,I nu.a2,I nu.a3,I nu.a4,I nu.a5]∧Blk W (B+1+1) [I 0,I 0,I 0,I 0,I 0,I 0]∧RM W K1 r m c (s.store ad t)∧Keeps K w W) ⟨?_,?_,?_,?_⟩ (fun W2 HW2=>?_)
  ·exact hB1.set6 _ _ _ _ _ _ rfl
  ·exact hB2.set6_ne _ _ _ _ _ _ (by omega)
  ·exact c141
  ·exact hkf.set6 _ _ _ _ _ _ (fun hb=>by have:=Hlt'.out _ hb;omega)
  have zz146:=PLift.up @c693;exact c691):p:=h
theorem c457 (h:p:=by
 have hE2:=HB2.out;obtain⟨z0,z1,z2,z3,z4,z5⟩:=hE2.c6;have f2:=hE2.free
 go_wp2_with fail
 refine bp_gen (fun W=>Blk W (B+1+1) [I 0,I 0,I 0,I 0,I 0,I 0]∧Keeps K w W∧RM W K1 r m c s) ⟨?_,?_,?_⟩ ?_
 ·exact c69
 ·exact c125
 ·exact c132
 clear hE2 f2 z0 z1 z2 z3 z4 z5;rintro W3 ⟨hE2,hkf,hrf⟩;obtain⟨d0,d1,d2,d3,d4,d5⟩:=hE2.c6;refine bodyPost_ret (v:= .tuple #[I 0,.agg #[I 0,I 0,I 0,I 0,I 0,I 0],I 3]) ?_ rfl ?_
 ·exact c117
 ·exact hR'.out _ _ ⟨rfl,hrf.mono HKK.out,hkf⟩):p:=h
theorem c458 (h:p:=by
 have zz130:=PLift.up @c641;exact c640):p:=h
theorem c459 (h:p:=by
 have zz4:=PLift.up @c157;exact c155):p:=h
theorem c460 (h:p:=by
 have zz6:=PLift.up @c163;exact c161):p:=h
theorem c461 (h:p:=by
 have zz130:=PLift.up @c642;exact c640):p:=h
theorem c462 (h:p:=by
 have zz6:=PLift.up @c162;exact c161):p:=h
theorem c463 (h:p:=by
 have zz4:=PLift.up @c156;exact c155):p:=h
theorem c464 (h:p:=by
 have zz132:=PLift.up @c648;exact c646):p:=h
theorem c465 (h:p:=by
 refine calls_hide fun R' hR'=>?_
 go_enter Tryz.func41,Tryz.ntmps41
 have zz143:=PLift.up @c683;exact c682):p:=h
theorem c466 (h:p:=by
 exact zz15.down):p:=h
theorem c467 (h:p:=by
 exact zz17.down):p:=h
theorem c468 (h:p:=by
 have zz157:=PLift.up @c747;exact c745):p:=h
theorem c469 (h:p:=by
 have zz128:=PLift.up @c636;exact c634):p:=h
theorem c470 (h:p:=by
 have hc9:=(hS2).b0;obtain⟨y0,y1,y2,y3,y4,y5,y6,y7,y8,y9⟩:=hc9.c10;clear hc9;have hz9:=(hS2).b4;unfold st0 at hz9;obtain⟨z0,z1,z2,z3,z4,z5,z6,z7,z8,z9⟩:=hz9.c10;have f:=hz9.free;clear hz9;have HS2:=hid hS2;have Hto3:=hid hto3;clear hS2 hto3
 go_upto_region 6 with fail
 go_region
 iterate 2 (first|go_values|go_skip|go_guarded|go_step|go_upon|go_back)
 go_step
 have hE:=(blk_out10 (HS2.out).b4 rfl (.slice A cs.length cp) (.slice (some ⟨b0,o0,none⟩) segs.length cp2) (I wt) (J wv) (I u0) (I u1) (I u2) (I u3) (I u4) (I u5)).drew;have hkk:=(keeps_out10 (b:=B+1+1+1+1) (HS2.out).kp (fun h=>by have h:B+1+1+1+1<B:=h;omega) (.slice A cs.length cp) (.slice (some ⟨b0,o0,none⟩) segs.length cp2) (I wt) (J wv) (I u0) (I u1) (I u2) (I u3) (I u4) (I u5)).drew
 have hkn:=(keeps_out10 (K:=(· ≠B+1+1+1+1)) (b:=B+1+1+1+1) (Keeps.refl _ w2) (fun h=>h rfl) (.slice A cs.length cp) (.slice (some ⟨b0,o0,none⟩) segs.length cp2) (I wt) (J wv) (I u0) (I u1) (I u2) (I u3) (I u4) (I u5)).drew;clear y0 y1 y2 y3 y4 y5 y6 y7 y8 y9 z0 z1 z2 z3 z4 z5 z6 z7 z8 z9 f;generalize ((((((((((w2.setCell ⟨B+1+1+1+1,0,none⟩ (.slice A cs.length cp)).setCell ⟨B+1+1+1+1,1,none⟩ (.slice (some ⟨b0,o0,none⟩) segs.length cp2)).setCell ⟨B+1+1+1+1,2,none⟩ (I wt)).setCell ⟨B+1+1+1+1,3,none⟩ (J wv)).setCell ⟨B+1+1+1+1,4,none⟩ (I u0)).setCell ⟨B+1+1+1+1,5,none⟩ (I u1)).setCell ⟨B+1+1+1+1,6,none⟩ (I u2)).setCell ⟨B+1+1+1+1,7,none⟩ (I u3)).setCell ⟨B+1+1+1+1,8,none⟩ (I u4)).setCell ⟨B+1+1+1+1,9,none⟩ (I u5)).drew=WZ at*
 obtain⟨d0,d1,d2,d3,d4,d5,d6,d7,d8,d9⟩:=hE.c10;refine bodyPost_ret (v:= .tuple #[I 6,.agg #[.slice A cs.length cp,.slice (some ⟨b0,o0,none⟩) segs.length cp2,I wt,J wv,I u0,I u1,I u2,I u3,I u4,I u5]]) ?_ rfl ?_
 ·exact c88
 ·exact c92):p:=h
theorem c471 (h:p:=by
 have H:=hid h;have HT:=hid ht;have HP:=hid hp;have HK0:=hid hK0;have HLT:=hid h.lt;obtain⟨ht0',ht1⟩:=ht0;have hcall:=fun w hw=>next_call p t w HP.out hw (by omega)
 rw[hn]at hcall;clear h ht hp hK0 hn;refine calls_hide fun R' hR'=>?_;unfold PlanM.val V6.val at*
 go_enter Tryz.func83,Tryz.ntmps83
 go_wp2_with fail
 refine calls_gen (fun W=>Blk W w.heap.size p.flat∧Blk W (w.heap.size+1) [I u.a0,I u.a1,I u.a2,I u.a3,I u.a4,I u.a5]∧Blk W (w.heap.size+1+1) [I 0,I 0,I 0,I 0,I 0,I 0]∧Keeps (· <w.heap.size) w W) ⟨?_,?_,?_,?_⟩ (fun W0 HW=>?_)
 ·exact c107
 ·exact bA
 ·exact bA
 ·exact kA
 obtain⟨hA0,hA1,hA2,hkA⟩:=HW;refine(hcall W0 (HT.out.keep hkA HT.out.2.2.2.2)).mono ?_;have zz150:=PLift.up @c714;exact c711):p:=h
theorem c472 (h:p:=by
 have hW1:=hid (And.intro hB0 (And.intro hB1 (And.intro hB2 (And.intro hkw hT1))));unfold PlanM.flat at hB0;obtain⟨c0,c1,c2,c3,c4,c5,c6,c7,c8,c9,c10,c11,c12,c13,c14⟩:=hB0.c15;obtain⟨d0,d1,d2,d3,d4,d5⟩:=hB1.c6;have HTk:=hid (fun W (hW:Keeps (· <w1.heap.size) w1 W)=>hT1.keep hW hT1.2.2.2.2);have hsz:szK k≤256∧4≤szK k:=by
  exact c120
 have HSS:=hid (show∀wa w':World,Keeps (· <w1.heap.size) w1 wa→Keeps (· <wa.heap.size) wa w'→((e0_15 w' w.heap.size (I p.base.a0) (I p.base.a1) (I p.base.a2) (I p.base.a3) (I p.base.a4) (I p.base.a5) (I p.size.a0) (I p.size.a1) (I p.size.a2) (I p.size.a3) (I p.size.a4) (I p.size.a5) (I p.cells) (I p.slots) (I p.live) (d0_6 w' (w.heap.size+1) (I u.a0) (I u.a1) (I u.a2) (I u.a3) (I u.a4) (I u.a5)))∧¬w'.heap.size=w.heap.size∧¬w'.heap.size=w.heap.size+1)from by
  intro wa w' k1 k2;have k:Keeps (· <w1.heap.size) w1 w':=k1.trans (k2.mono fun b hb=>by have:=k1.size;omega)
  have e0:=fun i=>World.cell?_of_block (a:=⟨w.heap.size,i,none⟩) (k.block w.heap.size hB0.lt);have e1:=fun i=>World.cell?_of_block (a:=⟨w.heap.size+1,i,none⟩) (k.block (w.heap.size+1) hB1.lt);exact⟨⟨(e0 0).trans c0,(e0 1).trans c1,(e0 2).trans c2,(e0 3).trans c3,(e0 4).trans c4,(e0 5).trans c5,(e0 6).trans c6,(e0 7).trans c7,(e0 8).trans c8,(e0 9).trans c9,(e0 10).trans c10,(e0 11).trans c11,(e0 12).trans c12,(e0 13).trans c13,(e0 14).trans c14,(e1 0).trans d0,(e1 1).trans d1,(e1 2).trans d2,(e1 3).trans d3,(e1 4).trans d4,(e1 5).trans d5⟩,by have:=k.size;have:=hB0.lt;omega,by have:=k.size;have:=hB1.lt;omega⟩)
 have zz158:=PLift.up @c750;exact c748):p:=h
theorem c473 (h:p:=by
 have hR1:=H.out.moreB hkw;generalize hBB:w.heap.size=B at*;have hg0:K B∨(B≤B∧B<w1.heap.size):=Or.inr ⟨by omega,hB0.lt⟩
 have hg1:K (B+1)∨(B≤B+1∧B+1<w1.heap.size):=Or.inr ⟨by omega,hB1.lt⟩
 have hg2:K (B+1+1)∨(B≤B+1+1∧B+1+1<w1.heap.size):=Or.inr ⟨by omega,hB2.lt⟩
 generalize hK1:(fun b=>K b∨(B≤b∧b<w1.heap.size))=K1 at*;have hKK:∀b,K b→K1 b:=by rw[←hK1];exact fun b hb=>Or.inl hb
 have hg0':K1 B:=by rw[←hK1];exact hg0
 have hg1':K1 (B+1):=by rw[←hK1];exact hg1
 have hg2':K1 (B+1+1):=by rw[←hK1];exact hg2
 have hlt':∀b,K b→b<B:=HLT.out;have hkK:Keeps K w w1:=hkw.mono hlt';clear hK1 hg0 hg1 hg2;have HKK:=hid hKK;have Hg0':=hid hg0';have Hg1':=hid hg1';have Hg2':=hid hg2';have HkK:=hid hkK;have Hlt':=hid hlt';have HBB:=hid hBB;clear hKK hg0' hg1' hg2' hkK hlt' hBB;have HR1:=hid hR1;exact zz11.down):p:=h
theorem c474 (h:p:=by
 have f1:=hO.free;have hsl:Z 105 #[I ((3:Nat):Int)] wr.drew fun e w'=>e= .returned (I 256)∧w'=wr.drew:=slab_call 3 (by omega) wr.drew (show PTab wr.drew from hTb)
 simp only[szK]at hszb hbk;have hb2:0≤o.a3∧o.a3+256*((f:Int)+1)≤10000000:=by have:=hbk;simp only[V6.uK]at this;omega
 have gw:IntKind.i64.wrap (o.a3+256)=o.a3+256:=IntWalk.i64_in _ (by omega)
 have hset:=hO.set 3 (I (o.a3+256));have HS:=hid (show Blk (wr.setCell ⟨B+1+1,3,none⟩ (I (o.a3+256))) (B+1+1) [I o.a0,I o.a1,I o.a2,I (o.a3+256),I o.a4,I o.a5]from hset)
 have zz141:=PLift.up @c675;exact c674):p:=h
theorem c475 (h:p:=by
 refine calls_gen (fun W=>PTab W∧Blk W (B+1+1) [I o.a0,I o.a1,I o.a2,I (o.a3+256),I o.a4,I o.a5]∧Keeps (fun b=>b<w1.heap.size∧b≠B+1+1) w1 W) ⟨?_,?_,?_⟩ (fun W HW=>?_)
 ·exact c18
 ·exact c49
 ·exact c15
 exact c402):p:=h
theorem c476 (h:p:=by
 refine calls_gen (fun W=>PTab W∧Blk W (B+1+1) [I o.a0,I o.a1,I o.a2,I (o.a3+256),I o.a4,I o.a5]∧Keeps (fun b=>b<w5.heap.size∧b≠B+1+1) w5 W) ⟨?_,?_,?_⟩ (fun W HW=>?_)
 ·exact c18
 ·exact c49
 ·exact c15
 exact c402):p:=h
theorem c477 (h:p:=by
 have f1:=hO.free;have hsl:Z 105 #[I ((1:Nat):Int)] wr.drew fun e w'=>e= .returned (I 16)∧w'=wr.drew:=slab_call 1 (by omega) wr.drew (show PTab wr.drew from hTb)
 simp only[szK]at hszb hbk;have hb2:0≤o.a1∧o.a1+256*((f:Int)+1)≤10000000:=by have:=hbk;simp only[V6.uK]at this;omega
 have gw:IntKind.i64.wrap (o.a1+16)=o.a1+16:=IntWalk.i64_in _ (by omega)
 have hset:=hO.set 1 (I (o.a1+16));have HS:=hid (show Blk (wr.setCell ⟨B+1+1,1,none⟩ (I (o.a1+16))) (B+1+1) [I o.a0,I (o.a1+16),I o.a2,I o.a3,I o.a4,I o.a5]from hset)
 have zz141:=PLift.up @c676;exact c674):p:=h
theorem c478 (h:p:=by
 refine calls_gen (fun W=>PTab W∧Blk W (B+1+1) [I o.a0,I (o.a1+16),I o.a2,I o.a3,I o.a4,I o.a5]∧Keeps (fun b=>b<w1.heap.size∧b≠B+1+1) w1 W) ⟨?_,?_,?_⟩ (fun W HW=>?_)
 ·exact c18
 ·exact c49
 ·exact c15
 exact c403):p:=h
theorem c479 (h:p:=by
 refine calls_gen (fun W=>PTab W∧Blk W (B+1+1) [I o.a0,I (o.a1+16),I o.a2,I o.a3,I o.a4,I o.a5]∧Keeps (fun b=>b<w5.heap.size∧b≠B+1+1) w5 W) ⟨?_,?_,?_⟩ (fun W HW=>?_)
 ·exact c18
 ·exact c49
 ·exact c15
 exact c403):p:=h
theorem c480 (h:p:=by
 have f1:=hO.free;have hsl:Z 105 #[I ((2:Nat):Int)] wr.drew fun e w'=>e= .returned (I 64)∧w'=wr.drew:=slab_call 2 (by omega) wr.drew (show PTab wr.drew from hTb)
 simp only[szK]at hszb hbk;have hb2:0≤o.a2∧o.a2+256*((f:Int)+1)≤10000000:=by have:=hbk;simp only[V6.uK]at this;omega
 have gw:IntKind.i64.wrap (o.a2+64)=o.a2+64:=IntWalk.i64_in _ (by omega)
 have hset:=hO.set 2 (I (o.a2+64));have HS:=hid (show Blk (wr.setCell ⟨B+1+1,2,none⟩ (I (o.a2+64))) (B+1+1) [I o.a0,I o.a1,I (o.a2+64),I o.a3,I o.a4,I o.a5]from hset)
 have zz141:=PLift.up @c677;exact c674):p:=h
theorem c481 (h:p:=by
 refine calls_gen (fun W=>PTab W∧Blk W (B+1+1) [I o.a0,I o.a1,I (o.a2+64),I o.a3,I o.a4,I o.a5]∧Keeps (fun b=>b<w1.heap.size∧b≠B+1+1) w1 W) ⟨?_,?_,?_⟩ (fun W HW=>?_)
 ·exact c18
 ·exact c49
 ·exact c15
 exact c404):p:=h
theorem c482 (h:p:=by
 refine calls_gen (fun W=>PTab W∧Blk W (B+1+1) [I o.a0,I o.a1,I (o.a2+64),I o.a3,I o.a4,I o.a5]∧Keeps (fun b=>b<w5.heap.size∧b≠B+1+1) w5 W) ⟨?_,?_,?_⟩ (fun W HW=>?_)
 ·exact c18
 ·exact c49
 ·exact c15
 exact c404):p:=h
theorem c483 (h:p:=by
 have f1:=hO.free;have hsl:Z 105 #[I ((0:Nat):Int)] wr.drew fun e w'=>e= .returned (I 4)∧w'=wr.drew:=slab_call 0 (by omega) wr.drew (show PTab wr.drew from hTb)
 simp only[szK]at hszb hbk;have hb2:0≤o.a0∧o.a0+256*((f:Int)+1)≤10000000:=by have:=hbk;simp only[V6.uK]at this;omega
 have gw:IntKind.i64.wrap (o.a0+4)=o.a0+4:=IntWalk.i64_in _ (by omega)
 have hset:=hO.set 0 (I (o.a0+4));have HS:=hid (show Blk (wr.setCell ⟨B+1+1,0,none⟩ (I (o.a0+4))) (B+1+1) [I (o.a0+4),I o.a1,I o.a2,I o.a3,I o.a4,I o.a5]from hset)
 have zz141:=PLift.up @c678;exact c674):p:=h
theorem c484 (h:p:=by
 refine calls_gen (fun W=>PTab W∧Blk W (B+1+1) [I (o.a0+4),I o.a1,I o.a2,I o.a3,I o.a4,I o.a5]∧Keeps (fun b=>b<w1.heap.size∧b≠B+1+1) w1 W) ⟨?_,?_,?_⟩ (fun W HW=>?_)
 ·exact c18
 ·exact c49
 ·exact c15
 exact c405):p:=h
theorem c485 (h:p:=by
 refine calls_gen (fun W=>PTab W∧Blk W (B+1+1) [I (o.a0+4),I o.a1,I o.a2,I o.a3,I o.a4,I o.a5]∧Keeps (fun b=>b<w5.heap.size∧b≠B+1+1) w5 W) ⟨?_,?_,?_⟩ (fun W HW=>?_)
 ·exact c18
 ·exact c49
 ·exact c15
 exact c405):p:=h
theorem c486 (h:p:=by
 have hA:=HA0.out.keep HKx.out (by omega)
 unfold PlanM.flat at hA;obtain⟨c0,c1,c2,c3,c4,c5,c6,c7,c8,c9,c10,c11,c12,c13,c14⟩:=hA.c15;clear hA;have hbt:=HBt.out;obtain⟨z0,z1,z2,z3⟩:=hbt.c4;have hTw:=HT.out.keep (HkA.out.trans (HKx.out.mono fun b hb=>by omega)) (by have:=HT.out.2.2.2.2;omega)
 have hbl:=hbt.lt;clear hbt;have hmb:=HMx.out;clear HMx;have HTw:=hid hTw;have Hmb:=hid hmb;clear hTw hmb
 go_wp2_with fail
 refine(Hneed.out _ HTw.out).mono ?_;rintro e w7 ⟨rfl,hk7⟩;simp only[V6.val];have hm7:=Hmb.out.keep hk7 Hmb.out.lt;have hk8:=HKx.out.trans (hk7.mono fun b hb=>by have:=HKx.out.size;omega)
 have hs7:=hm7.lt;clear hk7 c0 c1 c2 c3 c4 c5 c6 c7 c8 c9 c10 c11 c12 c13 c14 z0 z1 z2 z3 HBt HKx HTw Hmb Hneed;have Hm7:=hid hm7;have Hk8:=hid hk8;clear hm7 hk8
 go_wp2_with fail
 exact zz87.down):p:=h
theorem c487 (h:p:=by
 go_loopw[38] (fun kv wx=>∃(k:Nat),kv=I (k:Int)∧k≤6∧Hid (Blk wx (B+1+1) (upK ⟨m0,m1,m2,m3,m4,m5⟩ ⟨n0,n1,n2,n3,n4,n5⟩ k))∧Hid (Keeps (fun b=>b<B+1+1) W1 wx)∧B+1+1<wx.heap.size) (fun kv _=>6-(intOf kv).toNat)
 case atStart=>exact⟨0,rfl,by decide,Hm7,Hk8,hs7⟩
 case round=>
  clear Hm7 Hk8 hs7;obtain⟨k,rfl,hk6,HM,HK,hsx⟩:=hrel;have hkc:k=0∨k=1∨k=2∨k=3∨k=4∨k=5∨k=6:=by omega
  rcases hkc with rfl|rfl|rfl|rfl|rfl|rfl|rfl
  ·have hm:Blk wr (B+1+1) [I m0,I m1,I m2,I m3,I m4,I m5]:=HM.out;exact c53
  ·have hm:Blk wr (B+1+1) [I (m0+n0),I m1,I m2,I m3,I m4,I m5]:=HM.out;exact c54
  ·have hm:Blk wr (B+1+1) [I (m0+n0),I (m1+n1),I m2,I m3,I m4,I m5]:=HM.out;exact c55
  ·have hm:Blk wr (B+1+1) [I (m0+n0),I (m1+n1),I (m2+n2),I m3,I m4,I m5]:=HM.out;exact c56
  ·have hm:Blk wr (B+1+1) [I (m0+n0),I (m1+n1),I (m2+n2),I (m3+n3),I m4,I m5]:=HM.out;have hst:=hm.set 4 (I (m4+n4));have hkk:=HK.out.setCell (p:=⟨B+1+1,4,none⟩) (fun h=>Nat.lt_irrefl _ h) (I (m4+n4));exact c67
  ·have hm:Blk wr (B+1+1) [I (m0+n0),I (m1+n1),I (m2+n2),I (m3+n3),I (m4+n4),I m5]:=HM.out;exact c57
  ·have hm:Blk wr (B+1+1) (V6.list6 ⟨m0+n0,m1+n1,m2+n2,m3+n3,m4+n4,m5+n5⟩):=HM.out;have hmi2:(⟨m0+n0,m1+n1,m2+n2,m3+n3,m4+n4,m5+n5⟩:V6).in (20000*((i+1:Nat):Int)):=by
    unfold V6.in;dsimp only
    omega
   clear HM;have Hm:=hid hm;have Hmi2:=hid hmi2;clear hm hmi2
   go_wp2_with fail
   go_roundw
   case rel=>exact⟨i+1,fr,⟨m0+n0,m1+n1,m2+n2,m3+n3,m4+n4,m5+n5⟩,by first|rfl|go_num,by go_num,by omega,⟨by omega,by omega⟩,Hmi2.out,Hnx,Hm,HK,hsx⟩
   case measure=>exact msA):p:=h
theorem c488 (h:p:=by
 go_loopw[38] (fun kv wx=>∃(k:Nat),kv=I (k:Int)∧k≤6∧Hid (Blk wx (B+1+1) (upK ⟨m0,m1,m2,m3,(m4+(2+(cc:Int))),m5⟩ ⟨n0,n1,n2,n3,n4,n5⟩ k))∧Hid (Keeps (fun b=>b<B+1+1) W1 wx)∧B+1+1<wx.heap.size) (fun kv _=>6-(intOf kv).toNat)
 case atStart=>exact⟨0,rfl,by decide,Hm7,Hk8,hs7⟩
 case round=>
  clear Hm7 Hk8 hs7;obtain⟨k,rfl,hk6,HM,HK,hsx⟩:=hrel;have hkc:k=0∨k=1∨k=2∨k=3∨k=4∨k=5∨k=6:=by omega
  rcases hkc with rfl|rfl|rfl|rfl|rfl|rfl|rfl
  ·have hm:Blk wr (B+1+1) [I m0,I m1,I m2,I m3,I (m4+(2+(cc:Int))),I m5]:=HM.out;exact c53
  ·have hm:Blk wr (B+1+1) [I (m0+n0),I m1,I m2,I m3,I (m4+(2+(cc:Int))),I m5]:=HM.out;exact c54
  ·have hm:Blk wr (B+1+1) [I (m0+n0),I (m1+n1),I m2,I m3,I (m4+(2+(cc:Int))),I m5]:=HM.out;exact c55
  ·have hm:Blk wr (B+1+1) [I (m0+n0),I (m1+n1),I (m2+n2),I m3,I (m4+(2+(cc:Int))),I m5]:=HM.out;exact c56
  ·have hm:Blk wr (B+1+1) [I (m0+n0),I (m1+n1),I (m2+n2),I (m3+n3),I (m4+(2+(cc:Int))),I m5]:=HM.out;have hst:=hm.set 4 (I (((m4+(2+(cc:Int))))+n4));have hkk:=HK.out.setCell (p:=⟨B+1+1,4,none⟩) (fun h=>Nat.lt_irrefl _ h) (I (((m4+(2+(cc:Int))))+n4));exact c67
  ·have hm:Blk wr (B+1+1) [I (m0+n0),I (m1+n1),I (m2+n2),I (m3+n3),I ((m4+(2+(cc:Int)))+n4),I m5]:=HM.out;exact c57
  ·have hm:Blk wr (B+1+1) (V6.list6 ⟨m0+n0,m1+n1,m2+n2,m3+n3,(m4+(2+(cc:Int)))+n4,m5+n5⟩):=HM.out;have hmi2:(⟨m0+n0,m1+n1,m2+n2,m3+n3,(m4+(2+(cc:Int)))+n4,m5+n5⟩:V6).in (20000*((i+1:Nat):Int)):=by
    unfold V6.in;dsimp only
    omega
   clear HM;have Hm:=hid hm;have Hmi2:=hid hmi2;clear hm hmi2
   go_wp2_with fail
   go_roundw
   case rel=>exact⟨i+1,fr+1,⟨m0+n0,m1+n1,m2+n2,m3+n3,(m4+(2+(cc:Int)))+n4,m5+n5⟩,by first|rfl|go_num,by go_num,by omega,⟨by omega,by omega⟩,Hmi2.out,Hnx,Hm,HK,hsx⟩
   case measure=>exact msA):p:=h
theorem c489 (h:p:=by
 rw[hly]at hby;clear hly y0 f0 s0 y1 f1 s1 y2 f2 s2 y3 f3 s3 y4 f4 s4 y5 f5 s5 y6 f6 s6 y7 f7 s7 y8 f8 s8 y9 f9 s9;have hsA:=HsA.out.keep hky fun b hb=>by rcases hb with h|h;exact fun e=>HWD.out.kx (e▸h);exact h.2.2.2.2
 have hf1:=F1.out.keep hky fun b hb=>by rcases hb with h|h;exact fun e=>HWD.out.kx (e▸h);(show b≠X;omega)
 have hf2:=F2.out.keep hky fun b hb=>by rcases hb with h|h;exact fun e=>HWD.out.kx (e▸h);(show b≠X;omega)
 have hm14:=Hm12.out.keep hky (fun e=>hxm e.symm) (fun e=>hxc e.symm);have hkw4:=Hkw2.out.trans (hky.mono fun b hb=>hb.2.1);have hszy:=hky.size;clear HsA F1 F2 Hm12 Hkw2 Hbx hky Hkx;have k25:w14.cell? ⟨X,25,none⟩=some (.pointer (some ⟨m,0,none⟩)):=(hby.cell 25).trans x_get25;exact zz88.down):p:=h
theorem c490 (h:p:=by
 have y0:w14.cell? ⟨X,26,none⟩=some (.slice A9 segs'.length c9):=(hby.cell 26).trans (x_get26 0 _ rfl);have zz13:=PLift.up @c183;exact c182):p:=h
theorem c491 (h:p:=by
 have y0:w14.cell? ⟨X,26,none⟩=some (.slice SA segs'.length sc):=(hby.cell 26).trans (x_get26 0 _ rfl);have zz13:=PLift.up @c184;exact c182):p:=h
theorem c492 (h:p:=by
 obtain⟨x,hx⟩:∃x,fs[i]? =some x:=⟨_,List.getElem?_eq_getElem hlt2⟩;obtain⟨b0,o0,rfl,hbk,g1⟩:=SlAt.rec (f:=fun s=>[Value.string s]) (fun _ _=>rfl) Hsl.out i x hx;have a0:=(World.cell?_of_block (a:=⟨b0,o0+i*1+0,none⟩) (HK.out.block b0 (Hb.out _ hbk))).trans (g1 0 _ rfl);simp only[Nat.mul_one,Nat.add_zero]at a0;have hxs:=Hsm.out x (List.mem_of_getElem? hx);have hex:=HE.out
 rw[show fs.drop i=x::fs.drop (i+1) by
  obtain⟨h9,h8⟩:=List.getElem?_eq_some_iff.1 hx;rw[List.drop_eq_getElem_cons h9,h8]]at hex
 have hex:acc++((wordsR 0 (runesS x)).map (tokF i)++toksL (i+1) (fs.drop (i+1)))=toksL 0 fs:=hex;have hwl:=wordsR_len x;clear g1 hx HE;have Hex:=hid hex;clear hex
 go_wp2_with fail
 exact zz89.down):p:=h
theorem c493 (h:p:=by
 refine(ref6_words x (by omega) wr).mono ?_
 rintro e w2 ⟨v,rfl,hN1,hN2⟩;rw[words_eq]at hN1;generalize wordsR 0 (runesS x)=ws at*;obtain⟨A3,c3,rfl⟩:=ownB_form hN1;have hvl:∀b,(Value.slice A3 ws.length c3).ownBlock=some b→wr.heap.size≤b∧b<w2.heap.size:=fun b hb=>ownB_lt hN1 hb;have hol:∀b,(Value.slice A' acc.length cp').ownBlock=some b→b<wr.heap.size:=fun b hb=>(HO.out.1.lt b hb).2;have hO2:TokOwn w2 (fun b=>b<WB∨(Value.slice A3 ws.length c3).ownBlock=some b) (.slice A' acc.length cp') acc:=
  ⟨own_of_keep HO.out.1 hN2 hol,fun b hb hk=>by
   rcases hk with hk|hk
   ·exact HO.out.2 b hb hk
   ·have:=hvl b hk;have:=hol b hb;omega⟩
 have hwb9:WB≤wr.heap.size:=by rw[←HWB.out];exact HK.out.size
 have hK2:=HK.out.trans (hN2.mono fun b hb=>Nat.lt_of_lt_of_le hb hwb9);have hlt2:∀b,(b<WB∨(Value.slice A3 ws.length c3).ownBlock=some b)→b<w2.heap.size:=fun b hb=>by
  have h91:=hN2.size
  rcases hb with hb|hb
  ·omega
  ·exact(hvl b hb).2
 clear HO HK hvl hol hN2;have HO2:=hid hO2;have HK2:=hid hK2;have HN1:=hid hN1;have Hlt2:=hid hlt2;clear hO2 hK2 hN1 hlt2
 go_wp2_with fail
 go_loopw[4,8,37] (fun ov _ jv wx=>∃(j:Nat) (acc2:List TokI) (A2:Option Addr) (c2:Nat),ov= .slice A2 acc2.length c2∧jv=I (j:Int)∧j≤ws.length∧acc2.length≤600*i+j∧Hid (acc2++((ws.drop j).map (tokF i)++toksL (i+1) (fs.drop (i+1)))=toksL 0 fs)∧
  Hid (TokOwn wx (fun b=>b<WB∨(Value.slice A3 ws.length c3).ownBlock=some b) (.slice A2 acc2.length c2) acc2)∧Hid (Keeps (fun b=>b<WB∨(Value.slice A3 ws.length c3).ownBlock=some b) w2 wx)) (fun _ _ jv _=>ws.length-(intOf jv).toNat)
 case atStart=>exact⟨0,acc,A',cp',rfl,rfl,Nat.zero_le _,by omega,Hex,HO2,hid (Keeps.refl _ _)⟩
 case round=>
  rename World=>wy
  obtain⟨j,acc2,A2,c2,rfl,rfl,hj,hal2,HE2,HO4,HK4⟩:=hrel
  by_cases hjl:j<ws.length
  ·have hjlI:(j:Int)<(ws.length:Int):=by omega
   have zz22:=PLift.up @c212;exact c211
  ·obtain rfl:j=ws.length:=by omega
   have hjlI:¬(ws.length:Int)<(ws.length:Int):=by omega
   have hex:=HE2.out;rw[List.drop_length,List.map_nil,List.nil_append]at hex;have hO7:TokOwn wy (· <WB) (.slice A2 acc2.length c2) acc2:=⟨HO4.out.1,fun b hb hk=>HO4.out.2 b hb (Or.inl hk)⟩;exact c74):p:=h
end Go.Proofs.YtogdknnkhkjmcaaGreatDoor
