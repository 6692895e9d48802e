/- Lemmas on the programs that the statement reaches. -/
import Derived.Test.YtogdknnkhkjmcaaGreatDoorChecked
import Derived.WalkKit
import Derived.WalkSpells
import Derived.WalkLawsBesides
import Derived.Deep.Draws
import Derived.Handy
import Derived.Deep.MidRow
import Derived.Outline
import Derived.Deep.CutBlock
import Derived.Lib.LaidTab
import Derived.ProofKit
import Derived.OpenShut
import Derived.Deep.DeepHandedRow
import Derived.StillTailTactics
import Derived.Deep.CutRange
import Derived.Maps.RangeWalk
import Derived.Maps.OwnOps
import Derived.Maps.Ext
import Derived.Deep.DeepMust
import Derived.BigQuiet
import Derived.Laws.CopyOwn
import Derived.Deep.Slices
import Derived.Deep.Fields
import Derived.ChangeSame
import Derived.SizedLaws
import Derived.Maps.AppendAt
import Derived.IntWalk
import Derived.Laws.IdiomStrings
import Derived.RowKit
import Derived.Deep.QuietTactic
import Derived.RegionTactic
import Derived.ChangeAlike
import Derived.BigRegion
import Derived.Deep.RegionHeld3
import Derived.Deep.DrawnRows
import Derived.StillTail
import Derived.Deep.RegionHeldLaw
import Derived.Deep.AppendLies
import Derived.Lib.DecodeN
import Derived.OrdersHeld
import Derived.Deep.OwnRows
import Derived.Lib.OthersKept
import Derived.Laws.RangeAny
import Derived.Lib.AppendStr
import Derived.Laws.Runes
namespace Go.Proofs.YtogdknnkhkjmcaaGreatDoor
open Go.RowKit
set_option linter.all false
set_option maxRecDepth 1000000
structure Sd0_3 where
 a:Unit
def d0_3:Sd0_3:=⟨()⟩
instance:CoeFun Sd0_3 (fun _=>World→Nat→Value→Value→Value→Prop):=⟨fun _ w b v0 v1 v2=>w.cell? ⟨b,0,none⟩=some v0∧w.cell? ⟨b,1,none⟩=some v1∧w.cell? ⟨b,2,none⟩=some v2⟩
structure Sd0_4 where
 a:Unit
def d0_4:Sd0_4:=⟨()⟩
instance:CoeFun Sd0_4 (fun _=>World→Nat→Value→Value→Value→Value→Prop):=⟨fun _ w b v0 v1 v2 v3=>w.cell? ⟨b,0,none⟩=some v0∧w.cell? ⟨b,1,none⟩=some v1∧w.cell? ⟨b,2,none⟩=some v2∧w.cell? ⟨b,3,none⟩=some v3⟩
structure Se0_4 where
 a:Unit
def e0_4:Se0_4:=⟨()⟩
instance:CoeFun Se0_4 (fun _=>World→Nat→Value→Value→Value→Value→Prop→Prop):=⟨fun _ w b v0 v1 v2 v3 r=>w.cell? ⟨b,0,none⟩=some v0∧w.cell? ⟨b,1,none⟩=some v1∧w.cell? ⟨b,2,none⟩=some v2∧w.cell? ⟨b,3,none⟩=some v3∧r⟩
structure Sd0_6 where
 a:Unit
def d0_6:Sd0_6:=⟨()⟩
instance:CoeFun Sd0_6 (fun _=>World→Nat→Value→Value→Value→Value→Value→Value→Prop):=⟨fun _ w b v0 v1 v2 v3 v4 v5=>w.cell? ⟨b,0,none⟩=some v0∧w.cell? ⟨b,1,none⟩=some v1∧w.cell? ⟨b,2,none⟩=some v2∧w.cell? ⟨b,3,none⟩=some v3∧w.cell? ⟨b,4,none⟩=some v4∧w.cell? ⟨b,5,none⟩=some v5⟩
structure Se0_6 where
 a:Unit
def e0_6:Se0_6:=⟨()⟩
instance:CoeFun Se0_6 (fun _=>World→Nat→Value→Value→Value→Value→Value→Value→Prop→Prop):=⟨fun _ w b v0 v1 v2 v3 v4 v5 r=>w.cell? ⟨b,0,none⟩=some v0∧w.cell? ⟨b,1,none⟩=some v1∧w.cell? ⟨b,2,none⟩=some v2∧w.cell? ⟨b,3,none⟩=some v3∧w.cell? ⟨b,4,none⟩=some v4∧w.cell? ⟨b,5,none⟩=some v5∧r⟩
structure Sd0_9 where
 a:Unit
def d0_9:Sd0_9:=⟨()⟩
instance:CoeFun Sd0_9 (fun _=>World→Nat→Value→Value→Value→Value→Value→Value→Value→Value→Value→Prop):=⟨fun _ w b v0 v1 v2 v3 v4 v5 v6 v7 v8=>w.cell? ⟨b,0,none⟩=some v0∧w.cell? ⟨b,1,none⟩=some v1∧w.cell? ⟨b,2,none⟩=some v2∧w.cell? ⟨b,3,none⟩=some v3∧w.cell? ⟨b,4,none⟩=some v4∧w.cell? ⟨b,5,none⟩=some v5∧w.cell? ⟨b,6,none⟩=some v6∧w.cell? ⟨b,7,none⟩=some v7∧w.cell? ⟨b,8,none⟩=some v8⟩
structure Se0_9 where
 a:Unit
def e0_9:Se0_9:=⟨()⟩
instance:CoeFun Se0_9 (fun _=>World→Nat→Value→Value→Value→Value→Value→Value→Value→Value→Value→Prop→Prop):=⟨fun _ w b v0 v1 v2 v3 v4 v5 v6 v7 v8 r=>w.cell? ⟨b,0,none⟩=some v0∧w.cell? ⟨b,1,none⟩=some v1∧w.cell? ⟨b,2,none⟩=some v2∧w.cell? ⟨b,3,none⟩=some v3∧w.cell? ⟨b,4,none⟩=some v4∧w.cell? ⟨b,5,none⟩=some v5∧w.cell? ⟨b,6,none⟩=some v6∧w.cell? ⟨b,7,none⟩=some v7∧w.cell? ⟨b,8,none⟩=some v8∧r⟩
structure Sd0_10 where
 a:Unit
def d0_10:Sd0_10:=⟨()⟩
instance:CoeFun Sd0_10 (fun _=>World→Nat→Value→Value→Value→Value→Value→Value→Value→Value→Value→Value→Prop):=⟨fun _ w b v0 v1 v2 v3 v4 v5 v6 v7 v8 v9=>w.cell? ⟨b,0,none⟩=some v0∧w.cell? ⟨b,1,none⟩=some v1∧w.cell? ⟨b,2,none⟩=some v2∧w.cell? ⟨b,3,none⟩=some v3∧w.cell? ⟨b,4,none⟩=some v4∧w.cell? ⟨b,5,none⟩=some v5∧w.cell? ⟨b,6,none⟩=some v6∧w.cell? ⟨b,7,none⟩=some v7∧w.cell? ⟨b,8,none⟩=some v8∧w.cell? ⟨b,9,none⟩=some v9⟩
structure Se0_10 where
 a:Unit
def e0_10:Se0_10:=⟨()⟩
instance:CoeFun Se0_10 (fun _=>World→Nat→Value→Value→Value→Value→Value→Value→Value→Value→Value→Value→Prop→Prop):=⟨fun _ w b v0 v1 v2 v3 v4 v5 v6 v7 v8 v9 r=>w.cell? ⟨b,0,none⟩=some v0∧w.cell? ⟨b,1,none⟩=some v1∧w.cell? ⟨b,2,none⟩=some v2∧w.cell? ⟨b,3,none⟩=some v3∧w.cell? ⟨b,4,none⟩=some v4∧w.cell? ⟨b,5,none⟩=some v5∧w.cell? ⟨b,6,none⟩=some v6∧w.cell? ⟨b,7,none⟩=some v7∧w.cell? ⟨b,8,none⟩=some v8∧w.cell? ⟨b,9,none⟩=some v9∧r⟩
structure Sd0_15 where
 a:Unit
def d0_15:Sd0_15:=⟨()⟩
instance:CoeFun Sd0_15 (fun _=>World→Nat→Value→Value→Value→Value→Value→Value→Value→Value→Value→Value→Value→Value→Value→Value→Value→Prop):=⟨fun _ w b v0 v1 v2 v3 v4 v5 v6 v7 v8 v9 v10 v11 v12 v13 v14=>w.cell? ⟨b,0,none⟩=some v0∧w.cell? ⟨b,1,none⟩=some v1∧w.cell? ⟨b,2,none⟩=some v2∧w.cell? ⟨b,3,none⟩=some v3∧w.cell? ⟨b,4,none⟩=some v4∧w.cell? ⟨b,5,none⟩=some v5∧w.cell? ⟨b,6,none⟩=some v6∧w.cell? ⟨b,7,none⟩=some v7∧w.cell? ⟨b,8,none⟩=some v8∧w.cell? ⟨b,9,none⟩=some v9∧w.cell? ⟨b,10,none⟩=some v10∧w.cell? ⟨b,11,none⟩=some v11∧w.cell? ⟨b,12,none⟩=some v12∧w.cell? ⟨b,13,none⟩=some v13∧w.cell? ⟨b,14,none⟩=some v14⟩
structure Se0_15 where
 a:Unit
def e0_15:Se0_15:=⟨()⟩
instance:CoeFun Se0_15 (fun _=>World→Nat→Value→Value→Value→Value→Value→Value→Value→Value→Value→Value→Value→Value→Value→Value→Value→Prop→Prop):=⟨fun _ w b v0 v1 v2 v3 v4 v5 v6 v7 v8 v9 v10 v11 v12 v13 v14 r=>w.cell? ⟨b,0,none⟩=some v0∧w.cell? ⟨b,1,none⟩=some v1∧w.cell? ⟨b,2,none⟩=some v2∧w.cell? ⟨b,3,none⟩=some v3∧w.cell? ⟨b,4,none⟩=some v4∧w.cell? ⟨b,5,none⟩=some v5∧w.cell? ⟨b,6,none⟩=some v6∧w.cell? ⟨b,7,none⟩=some v7∧w.cell? ⟨b,8,none⟩=some v8∧w.cell? ⟨b,9,none⟩=some v9∧w.cell? ⟨b,10,none⟩=some v10∧w.cell? ⟨b,11,none⟩=some v11∧w.cell? ⟨b,12,none⟩=some v12∧w.cell? ⟨b,13,none⟩=some v13∧w.cell? ⟨b,14,none⟩=some v14∧r⟩
structure Se0_25 where
 a:Unit
def e0_25:Se0_25:=⟨()⟩
instance:CoeFun Se0_25 (fun _=>World→Nat→Value→Value→Value→Value→Value→Value→Value→Value→Value→Value→Value→Value→Value→Value→Value→Value→Value→Value→Value→Value→Value→Value→Value→Value→Value→Prop→Prop):=⟨fun _ w b v0 v1 v2 v3 v4 v5 v6 v7 v8 v9 v10 v11 v12 v13 v14 v15 v16 v17 v18 v19 v20 v21 v22 v23 v24 r=>w.cell? ⟨b,0,none⟩=some v0∧w.cell? ⟨b,1,none⟩=some v1∧w.cell? ⟨b,2,none⟩=some v2∧w.cell? ⟨b,3,none⟩=some v3∧w.cell? ⟨b,4,none⟩=some v4∧w.cell? ⟨b,5,none⟩=some v5∧w.cell? ⟨b,6,none⟩=some v6∧w.cell? ⟨b,7,none⟩=some v7∧w.cell? ⟨b,8,none⟩=some v8∧w.cell? ⟨b,9,none⟩=some v9∧w.cell? ⟨b,10,none⟩=some v10∧w.cell? ⟨b,11,none⟩=some v11∧w.cell? ⟨b,12,none⟩=some v12∧w.cell? ⟨b,13,none⟩=some v13∧w.cell? ⟨b,14,none⟩=some v14∧w.cell? ⟨b,15,none⟩=some v15∧w.cell? ⟨b,16,none⟩=some v16∧w.cell? ⟨b,17,none⟩=some v17∧w.cell? ⟨b,18,none⟩=some v18∧w.cell? ⟨b,19,none⟩=some v19∧w.cell? ⟨b,20,none⟩=some v20∧w.cell? ⟨b,21,none⟩=some v21∧w.cell? ⟨b,22,none⟩=some v22∧w.cell? ⟨b,23,none⟩=some v23∧w.cell? ⟨b,24,none⟩=some v24∧r⟩
structure Sd25_20 where
 a:Unit
def d25_20:Sd25_20:=⟨()⟩
instance:CoeFun Sd25_20 (fun _=>World→Nat→Value→Value→Value→Value→Value→Value→Value→Value→Value→Value→Value→Value→Value→Value→Value→Value→Value→Value→Value→Value→Prop):=⟨fun _ w b v0 v1 v2 v3 v4 v5 v6 v7 v8 v9 v10 v11 v12 v13 v14 v15 v16 v17 v18 v19=>w.cell? ⟨b,25,none⟩=some v0∧w.cell? ⟨b,26,none⟩=some v1∧w.cell? ⟨b,27,none⟩=some v2∧w.cell? ⟨b,28,none⟩=some v3∧w.cell? ⟨b,29,none⟩=some v4∧w.cell? ⟨b,30,none⟩=some v5∧w.cell? ⟨b,31,none⟩=some v6∧w.cell? ⟨b,32,none⟩=some v7∧w.cell? ⟨b,33,none⟩=some v8∧w.cell? ⟨b,34,none⟩=some v9∧w.cell? ⟨b,35,none⟩=some v10∧w.cell? ⟨b,36,none⟩=some v11∧w.cell? ⟨b,37,none⟩=some v12∧w.cell? ⟨b,38,none⟩=some v13∧w.cell? ⟨b,39,none⟩=some v14∧w.cell? ⟨b,40,none⟩=some v15∧w.cell? ⟨b,41,none⟩=some v16∧w.cell? ⟨b,42,none⟩=some v17∧w.cell? ⟨b,43,none⟩=some v18∧w.cell? ⟨b,44,none⟩=some v19⟩
structure Se35_10 where
 a:Unit
def e35_10:Se35_10:=⟨()⟩
instance:CoeFun Se35_10 (fun _=>World→Nat→Value→Value→Value→Value→Value→Value→Value→Value→Value→Value→Prop→Prop):=⟨fun _ w b v0 v1 v2 v3 v4 v5 v6 v7 v8 v9 r=>w.cell? ⟨b,35,none⟩=some v0∧w.cell? ⟨b,36,none⟩=some v1∧w.cell? ⟨b,37,none⟩=some v2∧w.cell? ⟨b,38,none⟩=some v3∧w.cell? ⟨b,39,none⟩=some v4∧w.cell? ⟨b,40,none⟩=some v5∧w.cell? ⟨b,41,none⟩=some v6∧w.cell? ⟨b,42,none⟩=some v7∧w.cell? ⟨b,43,none⟩=some v8∧w.cell? ⟨b,44,none⟩=some v9∧r⟩
structure SZ where
 a:Unit
def Z:SZ:=⟨()⟩
instance:CoeFun SZ (fun _=>FuncId→Array Value→World→(Ending→World→Prop)→Prop):=⟨fun _=>Calls Tryz.prog⟩
structure SI where
 a:Unit
def I:SI:=⟨()⟩
instance:CoeFun SI (fun _=>Int→Value):=⟨fun _=>Value.int .i64⟩
structure SJ where
 a:Unit
def J:SJ:=⟨()⟩
instance:CoeFun SJ (fun _=>Int→Value):=⟨fun _=>Value.int .u32⟩
variable {p:Prop}
theorem c1 (h:p:=by
 have hltI:(i:Int)<(all.length:Int):=by omega
 obtain⟨y,hy⟩:∃x,all[i]? =some x:=⟨_,List.getElem?_eq_getElem hlt⟩;have hym:=List.mem_of_getElem? hy;have hnx:=HN.out;rw[show all.drop i=y::all.drop (i+1) by
  obtain⟨h9,h8⟩:=List.getElem?_eq_some_iff.1 hy;rw[List.drop_eq_getElem_cons h9,h8],needsP_cons]at hnx
 have hkS:(kStr (all.map kcOf))[i]? =some (.string y.key):=by unfold kStr;rw[List.map_map,List.getElem?_map,hy];rfl
 have hkI:(kInt (all.map kcOf))[i]? =some (I y.cnt):=by unfold kInt;rw[List.map_map,List.getElem?_map,hy];rfl
 obtain⟨A',cap,e1,e2,e3,e4,e5⟩:=HKA5.out;injection e1 with e1 _ e1c
 subst e1 e1c;obtain⟨kb,ko,rfl,hkb1,hkc1⟩:=e5 (by omega)
 obtain⟨A'',cap2,r1,r2,r3,r4,r5⟩:=HKC5.out;injection r1 with r1 _ r1c
 subst r1 r1c;obtain⟨nb,no,rfl,hnb1,hnc1⟩:=r5 (by omega)
 have hkw:=HK.out;have a0:=(World.cell?_of_block (a:=⟨kb,ko+i,none⟩) (hkw.block kb hkb1)).trans (hkc1 i _ hkS);have a1:=(World.cell?_of_block (a:=⟨nb,no+i,none⟩) (hkw.block nb hnb1)).trans (hnc1 i _ hkI);have hkb1:kb<MB:=hkb1;have hnb1:nb<MB:=hnb1;clear e2 e3 e4 e5 r2 r3 r4 r5 hkc1 hnc1 hkS hkI;have hSr:=HS5.out.keep hkw fun b hb=>by show b<MB;omega
 obtain⟨lk1,lk2,lk3,lk4⟩:=Hlk.out y hym;have hyt9:0≤y.tl∧y.tl≤65536:=by
  by_cases h:y.recd=0
  ·rw[lk4 h];omega
  ·obtain⟨rc,tl,_,_,_,e,h9⟩:=lk3 h;rw[e];omega
 have hneed:=fun W=>need_ref p P HP.out Hl.out y.tl y.cnt W (by omega) (by omega)
 clear hyt9;rw[←need_eq]at hneed;have hni:=need_in p y.tl y.cnt;have hfind:=fun W hb hs=>ref10_find cs (s0:Int) p.slots.toNat y.key (some ⟨cb,co,none⟩) cp W K hb hs hcn Hu.out ⟨by omega,by omega⟩ (by have:=Hpf.out.n0;have:=Hpf.out.n1;omega) (by omega)
 rw[show((p.slots.toNat:Nat):Int)=p.slots from by have:=Hpf.out.n0;omega]at hfind
 generalize findL cs (s0:Int) p.slots.toNat (homeD p.slots.toNat (bsL y.key)) y.key p.slots.toNat 0=FF at hfind lk1;obtain⟨fa,fb,fc⟩:=FF;dsimp only at lk1 hfind;subst lk1;have hkl3:=ref7_cells y.key (by omega)
 rw[show(packC (bsL y.key))=packC (bsL y.key)from rfl]at hkl3
 obtain⟨yk,yr,yt,yc⟩:=y;dsimp only at a0 a1 lk2 lk3 lk4 hnx hneed hni hfind hkl3;have hnb:(256:Int)*((yc.toNat+2:Nat):Int)≤17000:=by omega
 generalize p.need yt yc=nd at*;obtain⟨n0,n1,n2,n3,n4,n5⟩:=nd;obtain⟨x0,x1,x2,x3,x4,x5⟩:=more;unfold V6.in at hni hmi;dsimp only at hni hmi;obtain⟨⟨p0,q0'⟩,⟨p1,q1'⟩,⟨p2,q2'⟩,⟨p3,q3'⟩,⟨p4,q4'⟩,⟨p5,q5'⟩⟩:=hni;obtain⟨⟨r0,t0⟩,⟨r1,t1⟩,⟨r2,t2⟩,⟨r3,t3⟩,⟨r4,t4⟩,⟨r5,t5⟩⟩:=hmi;have hi64:(i:Int)≤64:=by omega
 have hlB0:=hSr.b0.lt;have hlB2:=hSr.b2.lt;have hkbw:kb<wr.heap.size:=by omega
 have hnbw:nb<wr.heap.size:=by omega
 have hc9:=(hSr).b0;obtain⟨y0,y1,y2,y3,y4,y5,y6,y7,y8,y9⟩:=hc9.c10;clear hc9;have hpc:=hSr.b2;unfold PlanM.flat at hpc;obtain⟨g0,g1,g2,g3,g4,g5,g6,g7,g8,g9,g10,g11,g12,g13,g14⟩:=hpc.c15;clear hpc;have HSr:=hid hSr;have Hnx:=hid hnx;have Hneed:=hid hneed;have Hfind:=hid hfind;have Hkl3:=hid hkl3;have Hy:=hid hy;have Hym:=hid hym;clear hSr hnx hneed hfind hkl3 hy hym
 clear HN hkw
 go_upto_region 17 with fail
 have qy:=fun q:KC (· <wr.heap.size) wr=>q.cell hlB0 y0;have qg:=fun q:KC (· <wr.heap.size) wr=>q.cell hlB2 g13;have qa:=fun q:KC (· <wr.heap.size) wr=>q.cell hkbw a0;have hfq:=fun q:KC (· <wr.heap.size) wr=>q.calls ((Hfind.out q.w (fun b h9=>by have h8:=Hb.out b h9;have:=q.k.size;omega) (Hsl.out.keep (HSr.out.kp.trans (q.k.mono fun b hb=>by omega)) Hb.out)).mono fun e w' h=>⟨h.1,h.2.mono fun b hb=>Nat.lt_of_lt_of_le hb q.k.size⟩)
 have HFQ:=hid hfq;clear hfq Hfind;refine wp_region_kc (· <wr.heap.size) (by kernel_rfl) (by kernel_rfl) ?_
 repeat(go_big_quiet_step (exact HFQ.out _))
 refine wpQuiet_nil ?_;rintro w6 ⟨⟨_,hk6⟩,rfl⟩;have hS6:=HSr.out.calls hk6;have hM6:=HM.out.keep hk6 HM.out.lt;have hK6:=HK.out.trans (hk6.mono fun b hb=>by have hb:b<MB:=hb;omega)
 have hsz6:=hk6.size;have a0:=(World.cell?_of_block (a:=⟨kb,ko+i,none⟩) (hk6.block kb hkbw)).trans a0;have a1:=(World.cell?_of_block (a:=⟨nb,no+i,none⟩) (hk6.block nb hnbw)).trans a1;clear qy qg qa HFQ HSr HM HK hk6 y0 y1 y2 y3 y4 y5 y6 y7 y8 y9 g0 g1 g2 g3 g4 g5 g6 g7 g8 g9 g10 g11 g12 g13 g14 hlB0 hlB2;have HS6:=hid hS6;have HM6:=hid hM6;have HK6:=hid hK6;clear hS6 hM6 hK6
 by_cases hr:yr=0
 ·subst hr;have hyt:yt=0:=lk4 rfl;subst hyt;have hnx:=Hnx.out;rw[if_pos rfl]at hnx;clear Hnx lk3 lk4;have Hnx:=hid hnx;clear hnx;have hm:=HM6.out;have hm:Blk w6 MB [I x0,I x1,I x2,I x3,I x4,I x5]:=hm;have x4c:=hm.cell 4;simp only[List.getElem?_cons_zero,List.getElem?_cons_succ]at x4c;clear hm
  go_upto_region 21 with fail
  refine wp_region_held_drew (S:=fun _=>True) (by kernel_rfl) trivial (fun hHeld0=>?_)
  refine wpAnyH_head (S:=fun w'=>w'.cell? ⟨MB,4,none⟩=some (I x4)∧w'.cell? ⟨kb,ko+i,none⟩=some (.string yk)) 10 10 [] #[false,false,false,false,false,false,false,false,false,false] (by kernel_rfl) (by kernel_rfl) (by kernel_rfl) (fun _ _=>trivial) ?_
  simp only[List.take_succ_cons,List.take_zero];have hHeld:w6.drew.cell? ⟨MB,4,none⟩=some (I x4)∧w6.drew.cell? ⟨kb,ko+i,none⟩=some (.string yk):=⟨x4c,a0⟩;have zz14:=PLift.up @c187;exact c185
 ·obtain⟨rc,tl,hrc,hrc0,hct,hyt,htl⟩:=lk3 hr;subst hrc hyt;have hnx:=Hnx.out;rw[if_neg hr]at hnx;have hnx:needsP p (all.drop (i+1)) fr9 ⟨x0+n0,x1+n1,x2+n2,x3+n3,x4+n4,x5+n5⟩=(fr,⟨m0,m1,m2,m3,m4,m5⟩):=hnx;clear Hnx lk3 lk4 Hkl3;have hrb:((rc:Int)==0)=false:=by simpa using hr
  clear hr;have hrcl:rc<cs.length:=(List.getElem?_eq_some_iff.1 hct).1;have hrI:(rc:Int)<(cs.length:Int):=by omega
  have hrn:¬(rc:Int)<0:=by omega
  have hrd0:decide ((rc:Int)<0)=false:=decide_eq_false (by omega)
  have hrd1:decide ((cs.length:Int)≤(rc:Int))=false:=decide_eq_false (by omega)
  have hwt9:IntKind.i64.wrap (tl:Int)=(tl:Int):=IntWalk.i64_in _ (by omega)
  have rcell:=(World.cell?_of_block (a:=⟨cb,co+rc,none⟩) (HS6.out.kp.block cb (by omega))).trans (Hcell.out rc (J (tl:Int)) (by rw[List.getElem?_map,hct];rfl))
  clear hct hrc0;have hc9:=(HS6.out).b0;obtain⟨y0,y1,y2,y3,y4,y5,y6,y7,y8,y9⟩:=hc9.c10;clear hc9;have Hnx:=hid hnx;clear hnx
  go_upto_region 23 with fail
  clear rcell hrd0 hrd1 hrn hrI hwt9 hrb a0 y0 y1 y2 y3 y4 y5 y6 y7 y8 y9;have hnx:=Hnx.out;clear Hnx;have hS8:=HS6.out;have hM8:=HM6.out;have hM8:Blk w6 MB [I x0,I x1,I x2,I x3,I x4,I x5]:=hM8;have hK8:=HK6.out;have hsz8:=hM8.lt;clear HS6 HM6 HK6 hsz6 hszw;have hpc:=hS8.b2;unfold PlanM.flat at hpc;obtain⟨g0,g1,g2,g3,g4,g5,g6,g7,g8,g9,g10,g11,g12,g13,g14⟩:=hpc.c15
  clear hpc;have hlB2:=hS8.b2.lt;have hnbw:nb<w6.heap.size:=by omega
  skip
  have hneed2:=Hneed.out;unfold PlanM.val V6.val at hneed2;dsimp only at hneed2;have HSS:=hid (show∀wa w':World,Keeps (· <w6.heap.size) w6 wa→Keeps (· <wa.heap.size) wa w'→(e0_15 w' (B+1+1) (I p.base.a0) (I p.base.a1) (I p.base.a2) (I p.base.a3) (I p.base.a4) (I p.base.a5) (I p.size.a0) (I p.size.a1) (I p.size.a2) (I p.size.a3) (I p.size.a4) (I p.size.a5) (I p.cells) (I p.slots) (I p.live) (w'.cell? ⟨nb,no+i,none⟩=some (I yc)))∧(¬w'.heap.size=B+1+1∧¬w'.heap.size=nb)from by
   intro wa w' k1 k2;have k:Keeps (· <w6.heap.size) w6 w':=k1.trans (k2.mono fun b hb=>by have:=k1.size;omega)
   have e1:=fun i=>World.cell?_of_block (a:=⟨B+1+1,i,none⟩) (k.block (B+1+1) hlB2);have e2:=World.cell?_of_block (a:=⟨nb,no+i,none⟩) (k.block nb hnbw);have hks:=k.size;exact⟨⟨(e1 0).trans g0,(e1 1).trans g1,(e1 2).trans g2,(e1 3).trans g3,(e1 4).trans g4,(e1 5).trans g5,(e1 6).trans g6,(e1 7).trans g7,(e1 8).trans g8,(e1 9).trans g9,(e1 10).trans g10,(e1 11).trans g11,(e1 12).trans g12,(e1 13).trans g13,(e1 14).trans g14,e2.trans a1⟩,by omega,by omega⟩)
  have HTB:=hid (show∀wa,Keeps (· <w6.heap.size) w6 wa→Z 63 #[(.agg #[I p.base.a0,I p.base.a1,I p.base.a2,I p.base.a3,I p.base.a4,I p.base.a5,I p.size.a0,I p.size.a1,I p.size.a2,I p.size.a3,I p.size.a4,I p.size.a5,I p.cells,I p.slots,I p.live]),I (tl:Int),I yc] wa fun e w'=>e= .returned (.agg #[I n0,I n1,I n2,I n3,I n4,I n5])∧Hid (Keeps (· <w6.heap.size) w6 w')∧((e0_15 w' (B+1+1) (I p.base.a0) (I p.base.a1) (I p.base.a2) (I p.base.a3) (I p.base.a4) (I p.base.a5) (I p.size.a0) (I p.size.a1) (I p.size.a2) (I p.size.a3) (I p.size.a4) (I p.size.a5) (I p.cells) (I p.slots) (I p.live) (w'.cell? ⟨nb,no+i,none⟩=some (I yc)))∧(¬w'.heap.size=B+1+1∧¬w'.heap.size=nb))from fun wa h1=>by
   refine(hneed2 wa).mono ?_;rintro e w' ⟨rfl,h4⟩;exact⟨rfl,h1.trans (h4.mono fun b hb=>by have:=h1.size;omega),HSS.out _ _ h1 h4⟩)
  have HTA:=hid (show∀wa,Blk wa w6.heap.size [I 0,I 0,I 0,I 0,I 0,I 0]→Keeps (· <w6.heap.size) w6 wa→Z 63 #[(.agg #[I p.base.a0,I p.base.a1,I p.base.a2,I p.base.a3,I p.base.a4,I p.base.a5,I p.size.a0,I p.size.a1,I p.size.a2,I p.size.a3,I p.size.a4,I p.size.a5,I p.cells,I p.slots,I p.live]),I (tl:Int),I yc] wa fun e w'=>e= .returned (.agg #[I n0,I n1,I n2,I n3,I n4,I n5])∧Hid (Blk w' w6.heap.size [I 0,I 0,I 0,I 0,I 0,I 0]∧Keeps (· <w6.heap.size) w6 w')∧(e0_6 w' w6.heap.size (I 0) (I 0) (I 0) (I 0) (I 0) (I 0) (w'.frozen? ⟨w6.heap.size,0,none⟩=false∧w'.frozen? ⟨w6.heap.size,1,none⟩=false∧w'.frozen? ⟨w6.heap.size,2,none⟩=false∧w'.frozen? ⟨w6.heap.size,3,none⟩=false∧w'.frozen? ⟨w6.heap.size,4,none⟩=false∧w'.frozen? ⟨w6.heap.size,5,none⟩=false))∧((e0_15 w' (B+1+1) (I p.base.a0) (I p.base.a1) (I p.base.a2) (I p.base.a3) (I p.base.a4) (I p.base.a5) (I p.size.a0) (I p.size.a1) (I p.size.a2) (I p.size.a3) (I p.size.a4) (I p.size.a5) (I p.cells) (I p.slots) (I p.live) (w'.cell? ⟨nb,no+i,none⟩=some (I yc)))∧(¬w'.heap.size=B+1+1∧¬w'.heap.size=nb))from fun wa h0 h1=>by
   refine(hneed2 wa).mono ?_;rintro e w' ⟨rfl,h4⟩;have h5:=h0.keep h4 h0.lt;have h6:=h5;obtain⟨z0,z1,z2,z3,z4,z5⟩:=h6.c6;exact⟨rfl,⟨h5,h1.trans (h4.mono fun b hb=>by have:=h1.size;omega)⟩,⟨z0,z1,z2,z3,z4,z5,h5.free 0,h5.free 1,h5.free 2,h5.free 3,h5.free 4,h5.free 5⟩,HSS.out _ _ h1 h4⟩)
  have hneB:¬w6.heap.size=B+1+1:=by omega
  have hneC:¬w6.heap.size=nb:=by omega
  clear hneed2 Hneed;have HS8:=hid hS8;have HM8:=hid hM8;have HK8:=hid hK8;have Hnx:=hid hnx;clear hS8 hM8 hK8 hnx
  go_upto_region 23 with fail
  go_cut[26]from 122 to 128 (fun a wx=>∃NB,a= .pointer (some ⟨NB,0,none⟩)∧w6.heap.size≤NB∧Blk wx NB [I n0,I n1,I n2,I n3,I n4,I n5]∧Keeps (· <w6.heap.size) w6 wx)
  case first=>
   exact c394
  case rest=>
   have zz138:=PLift.up @c666;exact c665):p:=h
theorem c2 (h:p:=by
 have h12:¬r=376:=by have q0:=H0.out ;have q1:=H1.out ;have q2:=H2.out ;have q3:=H3.out ;have q4:=H4.out ;have q5:=H5.out ;have q6:=H6.out ;have q7:=H7.out ;have q8:=H8.out ;have q9:=H9.out ;have q10:=H10.out ;have q11:=H11.out ;omega
 have t12:(r==376)=false:=by simpa using h12
 have H12:=hid h12;clear h12;have h13:¬r=383:=by have q0:=H0.out ;have q1:=H1.out ;have q2:=H2.out ;have q3:=H3.out ;have q4:=H4.out ;have q5:=H5.out ;have q6:=H6.out ;have q7:=H7.out ;have q8:=H8.out ;have q9:=H9.out ;have q10:=H10.out ;have q11:=H11.out ;have q12:=H12.out ;omega
 have t13:(r==383)=false:=by simpa using h13
 have H13:=hid h13;clear h13;have h14:¬r=902:=by have q0:=H0.out ;have q1:=H1.out ;have q2:=H2.out ;have q3:=H3.out ;have q4:=H4.out ;have q5:=H5.out ;have q6:=H6.out ;have q7:=H7.out ;have q8:=H8.out ;have q9:=H9.out ;have q10:=H10.out ;have q11:=H11.out ;have q12:=H12.out ;have q13:=H13.out ;omega
 have t14:(r==902)=false:=by simpa using h14
 have H14:=hid h14;clear h14;have h15:¬r=908:=by have q0:=H0.out ;have q1:=H1.out ;have q2:=H2.out ;have q3:=H3.out ;have q4:=H4.out ;have q5:=H5.out ;have q6:=H6.out ;have q7:=H7.out ;have q8:=H8.out ;have q9:=H9.out ;have q10:=H10.out ;have q11:=H11.out ;have q12:=H12.out ;have q13:=H13.out ;have q14:=H14.out ;omega
 have t15:(r==908)=false:=by simpa using h15
 have H15:=hid h15;clear h15;have h16:¬r=962:=by have q0:=H0.out ;have q1:=H1.out ;have q2:=H2.out ;have q3:=H3.out ;have q4:=H4.out ;have q5:=H5.out ;have q6:=H6.out ;have q7:=H7.out ;have q8:=H8.out ;have q9:=H9.out ;have q10:=H10.out ;have q11:=H11.out ;have q12:=H12.out ;have q13:=H13.out ;have q14:=H14.out ;have q15:=H15.out ;omega
 have t16:(r==962)=false:=by simpa using h16
 have H16:=hid h16;clear h16
 go_wp2_with fail
 refine(ref5_in r 904 906 w).mono ?_;rintro e w2 ⟨b,rfl,hb,rfl⟩
 cases b with
 |true=>
  have H17:Hid ((904≤r∧r≤906)):=hid (hb.1 rfl);exact c16
 |false=>
  have H17:Hid (¬(904≤r∧r≤906)):=hid (fun g=>absurd (hb.2 g) (by decide))
  clear hb
  go_wp2_with fail
  refine(ref5_in r 910 911 w).mono ?_;rintro e w2 ⟨b,rfl,hb,rfl⟩
  cases b with
  |true=>
   have H18:Hid ((910≤r∧r≤911)):=hid (hb.1 rfl);exact c395
  |false=>
   have H18:Hid (¬(910≤r∧r≤911)):=hid (fun g=>absurd (hb.2 g) (by decide))
   clear hb
   go_wp2_with fail
   refine(ref5_in r 1024 1039 w).mono ?_;rintro e w2 ⟨b,rfl,hb,rfl⟩
   cases b with
   |true=>
    have H19:Hid ((1024≤r∧r≤1039)):=hid (hb.1 rfl);exact c412
   |false=>
    have H19:Hid (¬(1024≤r∧r≤1039)):=hid (fun g=>absurd (hb.2 g) (by decide))
    clear hb
    go_wp2_with fail
    refine(ref5_in r 1632 1641 w).mono ?_;rintro e w2 ⟨b,rfl,hb,rfl⟩
    cases b with
    |true=>
     have H20:Hid ((1632≤r∧r≤1641)):=hid (hb.1 rfl);clear hb;exact absurd True.intro (by have q0:=H0.out ;have q1:=H1.out ;have q2:=H2.out ;have q3:=H3.out ;have q4:=H4.out ;have q5:=H5.out ;have q6:=H6.out ;have q7:=H7.out ;have q8:=H8.out ;have q9:=H9.out ;have q10:=H10.out ;have q11:=H11.out ;have q12:=H12.out ;have q13:=H13.out ;have q14:=H14.out ;have q15:=H15.out ;have q16:=H16.out ;have q17:=H17.out ;have q18:=H18.out ;have q19:=H19.out ;have q20:=H20.out ;omega)
    |false=>
     have H20:Hid (¬(1632≤r∧r≤1641)):=hid (fun g=>absurd (hb.2 g) (by decide))
     clear hb;have hm:foldM r=r:=by have q0:=H0.out ;have q1:=H1.out ;have q2:=H2.out ;have q3:=H3.out ;have q4:=H4.out ;have q5:=H5.out ;have q6:=H6.out ;have q7:=H7.out ;have q8:=H8.out ;have q9:=H9.out ;have q10:=H10.out ;have q11:=H11.out ;have q12:=H12.out ;have q13:=H13.out ;have q14:=H14.out ;have q15:=H15.out ;have q16:=H16.out ;have q17:=H17.out ;have q18:=H18.out ;have q19:=H19.out ;have q20:=H20.out ;rw[foldM_ifs] ;omega
     clear H0 H1 H2 H3 H4 H5 H6 H7 H8 H9 H10 H11 H12 H13 H14 H15 H16 H17 H18 H19 H20;exact c11):p:=h
theorem c3 (h:p:=by
 have HB1:=hid hB1;have Hkw:=hid hkw;clear hB1 hkw;have hB2':=hB2;clear hB2
 go_loopw[2,8,10] (fun vn vk vr wr=>∃(f:Nat) (n' r':Int) (k':Nat) (o:V6),vn=I n'∧vk=I (k':Int)∧vr=I r'∧k'≤3∧-9223372036854775808≤n'∧n'≤3000∧0≤r'∧r'≤256∧
  n'.toNat+(if r'≤0 then 1 else 0)<f∧Hid (Blk wr (B+1+1) [I o.a0,I o.a1,I o.a2,I o.a3,I o.a4,I o.a5]∧Keeps (fun b=>b<w5.heap.size∧b≠B+1+1) w5 wr∧(∀i,i≤3→0≤o.uK i∧o.uK i+256*f≤10000000)∧needL f n' r' k' o=needL (n.toNat+2) n R0 K0 zerosN)) (fun vn _ vr _=>2*(intOf vn).toNat+(if intOf vr≤0 then 1 else 0))
 case atStart=>exact⟨n.toNat+2,n,R0,K0,zerosN,by first|rfl|go_num,by first|rfl|go_num|(have hx:=HKM.out;congr 1;omega),by first|rfl|go_num,HR0.out.2.2,n0,n1,HR0.out.1,HR0.out.2.1,by split<;>omega,hid ⟨hB2',Keeps.refl _ _,fun i hi=>by rw[zerosN_uK];omega,rfl⟩⟩
 case round=>
  obtain⟨f,n',r',k',o,rfl,rfl,rfl,hk',hn0,hn1,hr0,hr1,hf,HI⟩:=hrel
  by_cases hgt:n'>r'
  ·obtain⟨f,rfl⟩:∃g,f=g+1:=⟨f-1,by omega⟩
   have zz21:=PLift.up @c210;exact c208
  ·have HE:=hid hgt;have hfin:o=needL (n.toNat+2) n R0 K0 zerosN:=by
    have:=HI.out.2.2.2
    cases f with
    |zero=>omega
    |succ f=>rw[needL,if_neg hgt]at this;exact this
   have zz23:=PLift.up @c215;exact c214):p:=h
theorem c4 (h:p:=by
 have HB1:=hid hB1;have Hkw:=hid hkw;have hB2':=hB2;clear hB1 hkw hB2
 go_loopw[8,9,12] (fun vl vk vi wr=>∃(i m lf k':Nat) (o:V6),vl=I (lf:Int)∧vk=I (k':Int)∧vi=I (i:Int)∧k'≤3∧lf≤256∧i+m=n.toNat∧
  Hid (Blk wr (B+1+1) [I o.a0,I o.a1,I o.a2,I o.a3,I o.a4,I o.a5]∧Keeps (fun b=>b<w5.heap.size∧b≠B+1+1) w5 wr∧(∀j,j≤3→0≤o.uK j∧o.uK j+256*m≤10000000)∧refL m lf k' o=refL n.toNat R0 K0 zerosN)) (fun _ _ vi _=>n.toNat-(intOf vi).toNat)
 case atStart=>exact⟨0,n.toNat,R0,K0,zerosN,by first|rfl|go_num|(have hx:=HRK.out;congr 1;omega),by first|rfl|go_num|(have hx:=HRK.out;congr 1;omega),rfl,HRK.out.2.2.1,HRK.out.2.1,by omega,hid ⟨hB2',Keeps.refl _ _,fun i hi=>by rw[zerosN_uK];omega,rfl⟩⟩
 case round=>
  obtain⟨i,m,lf,k',o,rfl,rfl,rfl,hk',hlf,him,HI⟩:=hrel
  by_cases hlt:(i:Int)<n
  ·obtain⟨m,rfl⟩:∃g,m=g+1:=⟨m-1,by omega⟩
   obtain⟨hO,hKO,hbd,hres⟩:=HI.out;have HIM:=hid (show i+1+m=n.toNat from by omega)
   have HKO:=hid hKO;have hi3:i<3000:=by omega
   by_cases hl0:lf=0
   ·rw[show refL (m+1) lf k' o=refL m (sz k'-2) (min (k'+1) 3) (o.up k' (szK k'))from by rw[refL,if_pos hl0]]at hres
    have zz107:=PLift.up @c548;exact c546
   ·rw[show refL (m+1) lf k' o=refL m (lf-1) k' o from by rw[refL,if_neg hl0]]at hres
    have zz41:=PLift.up @c277;exact c275
  ·have hm0:m=0:=by omega
   subst hm0;have hfin:o=refL n.toNat R0 K0 zerosN:=HI.out.2.2.2;have zz23:=PLift.up @c216;exact c214):p:=h
theorem c5 (h:p:=by
 skip
 have hp:Blk wr (B+1+1) [I 0,I 0,I 0,I 0,I 0,I 0,I 0,I 0,I 0,I 0,I 0,I 0,I (3),I 1,I 0]:=HP.out;have Hs:=hid (fun W=>between_yes s0 0 512 W (by omega))
 have zz119:=PLift.up @c603;exact c602):p:=h
theorem c6 (h:p:=by
 have H10:=hid h10;clear h10;have h11:¬r=376:=by have q0:=H0.out ;have q1:=H1.out ;have q2:=H2.out ;have q3:=H3.out ;have q4:=H4.out ;have q5:=H5.out ;have q6:=H6.out ;have q7:=H7.out ;have q8:=H8.out ;have q9:=H9.out ;have q10:=H10.out ;omega
 have t11:(r==376)=false:=by simpa using h11
 have H11:=hid h11;clear h11;have h12:¬r=383:=by have q0:=H0.out ;have q1:=H1.out ;have q2:=H2.out ;have q3:=H3.out ;have q4:=H4.out ;have q5:=H5.out ;have q6:=H6.out ;have q7:=H7.out ;have q8:=H8.out ;have q9:=H9.out ;have q10:=H10.out ;have q11:=H11.out ;omega
 have t12:(r==383)=false:=by simpa using h12
 have H12:=hid h12;clear h12;have h13:¬r=902:=by have q0:=H0.out ;have q1:=H1.out ;have q2:=H2.out ;have q3:=H3.out ;have q4:=H4.out ;have q5:=H5.out ;have q6:=H6.out ;have q7:=H7.out ;have q8:=H8.out ;have q9:=H9.out ;have q10:=H10.out ;have q11:=H11.out ;have q12:=H12.out ;omega
 have t13:(r==902)=false:=by simpa using h13
 have H13:=hid h13;clear h13;have h14:¬r=908:=by have q0:=H0.out ;have q1:=H1.out ;have q2:=H2.out ;have q3:=H3.out ;have q4:=H4.out ;have q5:=H5.out ;have q6:=H6.out ;have q7:=H7.out ;have q8:=H8.out ;have q9:=H9.out ;have q10:=H10.out ;have q11:=H11.out ;have q12:=H12.out ;have q13:=H13.out ;omega
 have t14:(r==908)=false:=by simpa using h14
 have H14:=hid h14;clear h14;have h15:¬r=962:=by have q0:=H0.out ;have q1:=H1.out ;have q2:=H2.out ;have q3:=H3.out ;have q4:=H4.out ;have q5:=H5.out ;have q6:=H6.out ;have q7:=H7.out ;have q8:=H8.out ;have q9:=H9.out ;have q10:=H10.out ;have q11:=H11.out ;have q12:=H12.out ;have q13:=H13.out ;have q14:=H14.out ;omega
 have t15:(r==962)=false:=by simpa using h15
 have H15:=hid h15;clear h15
 go_wp2_with fail
 refine(ref5_in r 904 906 w).mono ?_;rintro e w2 ⟨b,rfl,hb,rfl⟩
 cases b with
 |true=>
  have H16:Hid ((904≤r∧r≤906)):=hid (hb.1 rfl);exact c21
 |false=>
  have zz154:=PLift.up @c738;exact c736):p:=h
theorem c7 (h:p:=by
 have hc:=HC.out;obtain⟨c0,c1,c2,c3,c4,c5,c6,c7,c8,c9⟩:=hc.c10;have zz137:=PLift.up @c662;exact c661):p:=h
theorem c8 (h:p:=by
 skip
 have hp:Blk wr (B+1+1) [I (3),I 0,I 0,I 0,I 0,I 0,I (s0*4),I 0,I 0,I 0,I 0,I 0,I (3+s0*4),I 1,I 0]:=HP.out;have Hs:=hid (fun W=>between_yes s1 0 512 W (by omega))
 have zz119:=PLift.up @c604;exact c602):p:=h
theorem c9 (h:p:=by
 have g5:decide (S-U<M)=true:=decide_eq_true (by omega)
 have g6:decide (M>S-U)=true:=decide_eq_true (by omega)
 have HG:=hid (HNO.out (by omega))
 clear hle x0 x1 x2 x3 hb0 hb1 hb2
 go_wp2_with fail
 go_quiet (fail)
 go_wp2_with fail
 refine hR'.out _ _ ⟨?_,?_⟩
 ·rw[HG.out];rfl
 ·repeat(first|exact Hkp.out|with_reducible refine Keeps.drew ?_|with_reducible refine Keeps.drewN ?_ _)):p:=h
theorem c10 (h:p:=by
 repeat(first|exact Hkp.out|with_reducible refine Keeps.drew ?_|with_reducible refine Keeps.drewN ?_ _)):p:=h
theorem c11 (h:p:=by
 have Hm:=hid hm;clear hm
 go_wp2_with fail
 exact hR'.out _ _ ⟨by rw[Hm.out];first|rfl|(congr 3;omega),rfl⟩):p:=h
theorem c12 (h:p:=by
 skip
 have hp:Blk wr (B+1+1) [I (3),I (3+s0*4),I 0,I 0,I 0,I 0,I (s0*4),I (s1*16),I 0,I 0,I 0,I 0,I (3+s0*4+s1*16),I 1,I 0]:=HP.out;have Hs:=hid (fun W=>between_yes s2 0 512 W (by omega))
 have zz119:=PLift.up @c605;exact c602):p:=h
theorem c13 (h:p:=by
 go_wp2_with fail
 have htx:(textS wd).size≤4000000:=by
  have:=textB_len wd;show(textB wd).length≤_
  omega
 have hks:=HW3.out.2.size;refine(utf_text wd (by omega) A2 c2 w3 _ (fun b hb=>hb.2) (ownB_slAt HW3.out.1)).mono ?_
 rintro e w4 ⟨rfl,hk4⟩
 go_wp2_with fail
 refine(utf_fit (textS wd) (by omega) 16 (by omega) w4).mono ?_
 rintro e w5 ⟨rfl,hk5⟩;have htm:fitS 16 (runesS (textS wd))=termP ((rs.drop i).takeWhile isW):=by unfold termP;rw[←Hst.out.1]
 rw[htm];have hex:=Hex.out;rw[Hst.out.2]at hex;have hR5:=HR2.out.calls ((HW3.out.2.trans (hk4.mono fun b hb=>by omega)).trans (hk5.mono fun b hb=>by have:=hk4.size;omega))
 clear htm;generalize textS wd=tx at*;generalize termP ((rs.drop i).takeWhile isW)=tm at*;have Hex5:=hid hex;have HR5:=hid hR5;clear hex hR5;clear Hex Hst hk4 hk5
 go_wp2_with fail
 refine(token_stop tm w5).mono ?_;rintro e w6 ⟨rfl,rfl⟩
 by_cases hsp:stopP tm=true
 ·have hex:=Hex5.out;rw[if_pos hsp]at hex;have Hex2:=hid hex;clear hex;clear Hex5
  go_wp2_with fail
  go_roundw
  case rel=>exact⟨j+1,place+1,acc,A,cp,rfl,by go_num,by go_num,by omega,by omega,by omega,HR5,Hex2⟩
  case measure=>exact msA
 ·have hex:=Hex5.out;rw[if_neg hsp]at hex;have hspb:stopP tm=false:=by simpa using hsp
  have hex2:(acc++[(tm,place)])++wordsR (place+1) (rs.drop (j+1))=wordsR 0 rs:=by rw[←hex];simp
  have Hex2:=hid hex2;clear hex2;clear Hex5 hex;have hk6:=HR5.out.2.size;obtain⟨i0,hi,hz0,hz1,hz2⟩:=info_partsF Tryz.infoTok
  go_wp2_with (at_builtin;go_must (refine wpList_append_own_at _ rfl _ _ 117 rfl (w1.heap.size) 128 i0 (.agg #[.int .u8 0,.string ⟨#[]⟩,I 0]) 3 32 Tryz.underlying117 hi hz0 hz1 hz2 rfl (by decide) (.slice A acc.length cp) acc.length (acc.flatMap tokC) rfl (ownB_keepS HR5.out.1 ((Keeps.refl _ _).alloc (fun b hb=>hb) _)) ⟨w5.heap.size,0,none⟩ 1 1 [.int .u8 0,.string tm,I (place:Int)] rfl (by simp) (own_newsS (own_lit w5 0 _ _ 3 1 [.int .u8 0,.string tm,I (place:Int)] rfl rfl (by decide) (Nat.zero_le _))) ?_ ?_ ?_ ?_ ?_))
  all_goals(try(first|with_reducible exact one1 _ _|with_reducible exact one2 _ _ _|with_reducible exact one4 _ _ _ _ _|with_reducible exact oneM _ _|exact rfl|exact fun _ _=>rfl|exact⟨rfl,rfl⟩|exact⟨rfl,rfl,rfl⟩|exact⟨rfl,rfl,rfl,rfl⟩|(unfold maxLen;omega)|omega|(simp;omega)|(simp;done)))
  (try clear hi)
  (try clear hz0)
  (try clear hz1)
  (try clear hz2)
  all_goals(try(first|exact oneTok (tm,place)|(have:=hai;simp only[maxLen];omega)))
  intro v' w7 hown hgr _ hf;have hN:=HR5.out.push (x:=(tm,place)) hown hgr;obtain⟨A',cp',rfl⟩:=ownB_form hown;clear hown hgr hf HR5;have HN:=hid hN;clear hN
  go_wp2_with fail
  go_roundw
  case rel=>exact⟨j+1,place+1,acc++[(tm,place)],A',cp',by simp,by go_num,by go_num,by omega,by omega,by simp;omega,by simpa using HN,Hex2⟩
  case measure=>exact msA):p:=h
theorem c14 (h:p:=by
 have hij:i+(j+1)<s.size:=by omega
 have hijI:(i:Int)+((j:Int)+1)<(s.size:Int):=by omega
 have hcb:=byteI_at s (i+(j+1)) hij;have hcb2:=byteI_bnd s (i+(j+1));have hacc:accN s i (j+1)=accN s i j*64+byteI s (i+(j+1))-128:=rfl;rw[hcb]at hcb2 hacc;generalize hy:s[i+(j+1)].toNat=y at*;have hyb:(y:Int)≤255:=by omega
 by_cases t1:y<128
 ·have t1I:(y:Int)<128:=by omega
  exact c427
 have t1I:¬(y:Int)<128:=by omega
 by_cases t2:191<y
 ·have t2I:191<(y:Int):=by omega
  exact c427
 have t2I:¬191<(y:Int):=by omega
 have hc2:contB s i (j+1):=fun m a b=>by
  by_cases hm:m≤j
  ·exact HC.out m a hm
  ·obtain rfl:m=j+1:=by omega
   rw[hcb];omega
 have Hacc:=hid hacc;have Hc2:=hid hc2;clear hacc hc2;clear hcb hcb2;generalize accN s i j=n at*
 go_wp2_with fail
 go_roundw
 case rel=>exact⟨j+1,by rw[Hacc.out];try go_num,by go_num,by omega,by first|trivial|rfl,Hc2⟩
 case measure=>exact msA):p:=h
theorem c15 (h:p:=by
 repeat(first|with_reducible exact HKO.out|with_reducible refine Keeps.drew ?_|with_reducible refine Keeps.setCell ?_ ?_ _)
 all_goals simp):p:=h
theorem c16 (h:p:=by
 clear hb;exact absurd True.intro (by have q0:=H0.out ;have q1:=H1.out ;have q2:=H2.out ;have q3:=H3.out ;have q4:=H4.out ;have q5:=H5.out ;have q6:=H6.out ;have q7:=H7.out ;have q8:=H8.out ;have q9:=H9.out ;have q10:=H10.out ;have q11:=H11.out ;have q12:=H12.out ;have q13:=H13.out ;have q14:=H14.out ;have q15:=H15.out ;have q16:=H16.out ;have q17:=H17.out ;omega)):p:=h
theorem c17 (h:p:=by
 refine bp_gen (fun W=>Blk W (w.heap.size+1) [I 0,I 0,I 0,I 0,I 0,I 0,I 0,I 0,I 0,I 0,I 0,I 0,I 0,I 0,I 0]∧Keeps (· <w.heap.size) w W) ⟨?_,?_⟩ ?_
 ·first|(repeat(first|with_reducible assumption|with_reducible exact Blk.new _ _ _|with_reducible refine Blk.drew ?_|(with_reducible refine Blk.new' _ _ _ ?_;focus(simp;done))|with_reducible refine Blk.alloc ?_ _))|exact(Blk.set15 (by repeat(first|(with_reducible refine Blk.new' _ _ _ ?_;focus(simp;done))|with_reducible refine Blk.alloc ?_ _)) _ _ _ _ _ _ _ _ _ _ _ _ _ _ _ rfl)
 ·exact kA
 rintro W2 ⟨hD,hkk⟩;exact c418):p:=h
theorem c18 (h:p:=by
 refine HTW.out.keep (K:=fun b=>b≠B+1+1) ?_ (by omega)
 repeat(first|with_reducible exact Keeps.refl _ _|with_reducible refine Keeps.drew ?_|with_reducible refine Keeps.setCell ?_ ?_ _)
 all_goals simp):p:=h
theorem c19 (h:p:=by
 go_region_held3 (fun w'=>(e0_15 w' B (I p.base.a0) (I p.base.a1) (I p.base.a2) (I p.base.a3) (I p.base.a4) (I p.base.a5) (I p.size.a0) (I p.size.a1) (I p.size.a2) (I p.size.a3) (I p.size.a4) (I p.size.a5) (I p.cells) (I p.slots) (I p.live) (d0_6 w' (B+1) (I u.a0) (I u.a1) (I u.a2) (I u.a3) (I u.a4) (I u.a5)))) (go_keep)
  (first
   |(go_at_call 105;refine(HSL.out _ (HTk.out _ (by(repeat(first|with_reducible exact Keeps.refl _ _|with_reducible refine Keeps.drew ?_|with_reducible refine Keeps.drewN ?_ _|with_reducible refine Keeps.alloc ?_ ?_ _));all_goals(intro b hb;exact hb)))).mono ?_;rintro e wa ⟨rfl,rfl⟩)
   |(go_at_call 43;refine(HTA.out _ ?_ ?_).mono ?_;(focus((repeat(first|with_reducible exact Blk.new _ _ _|with_reducible refine Blk.drew ?_|with_reducible refine Blk.drewN ?_ _|(with_reducible refine Blk.new' _ _ _ ?_;focus(simp;done))));done));(focus((repeat(first|with_reducible exact Keeps.refl _ _|with_reducible refine Keeps.drew ?_|with_reducible refine Keeps.drewN ?_ _|with_reducible refine Keeps.alloc ?_ ?_ _));all_goals(intro b hb;exact hb)));rintro e wb ⟨rfl,HKW,HBW,⟨zc0,zc1,zc2,zc3,zc4,zc5,zf0,zf1,zf2,zf3,zf4,zf5⟩,⟨q0,q1,q2,q3,q4,q5,q6,q7,q8,q9,q10,q11,q12,q13,q14,q15,q16,q17,q18,q19,q20⟩,hqa,hqb⟩)
   |(go_at_call 43;refine(HTB.out _ ?_).mono ?_;(focus((repeat(first|with_reducible exact Keeps.refl _ _|with_reducible refine Keeps.drew ?_|with_reducible refine Keeps.drewN ?_ _|with_reducible refine Keeps.alloc ?_ ?_ _));all_goals(intro b hb;exact hb)));rintro e wb ⟨rfl,HKW,⟨q0,q1,q2,q3,q4,q5,q6,q7,q8,q9,q10,q11,q12,q13,q14,q15,q16,q17,q18,q19,q20⟩,hqa,hqb⟩))
 all_goals
  go_wp2_with fail
  go_meet
  case rel=>
   refine⟨_,rfl,rfl,rfl,?_,?_,?_⟩
   ·first|exact Nat.le_refl _|exact HKW.out.size
   ·unfold V6.list
    repeat(first|with_reducible exact Blk.new _ _ _|exact HBW.out.set6 _ _ _ _ _ _ rfl|with_reducible refine Blk.drew ?_)
   ·exact c428):p:=h
theorem c20 (h:p:=by
 skip
 have hp:Blk wr (B+1+1) [I (3),I (3+s0*4),I (3+s0*4+s1*16),I 0,I 0,I 0,I (s0*4),I (s1*16),I (s2*64),I 0,I 0,I 0,I (3+s0*4+s1*16+s2*64),I 1,I 0]:=HP.out;have Hs:=hid (fun W=>between_yes s3 0 512 W (by omega))
 have zz119:=PLift.up @c606;exact c602):p:=h
theorem c21 (h:p:=by
 clear hb;exact absurd True.intro (by have q0:=H0.out ;have q1:=H1.out ;have q2:=H2.out ;have q3:=H3.out ;have q4:=H4.out ;have q5:=H5.out ;have q6:=H6.out ;have q7:=H7.out ;have q8:=H8.out ;have q9:=H9.out ;have q10:=H10.out ;have q11:=H11.out ;have q12:=H12.out ;have q13:=H13.out ;have q14:=H14.out ;have q15:=H15.out ;have q16:=H16.out ;omega)):p:=h
theorem c22 (h:p:=by
 have Hm:=hid hm;clear hm
 go_wp2_with fail
 exact hR'.out _ _ ⟨by rw[Hm.out];rfl,rfl⟩):p:=h
theorem c23 (h:p:=by
 clear hof;have zz169:=PLift.up @c785;exact c784):p:=h
theorem c24 (h:p:=by
 skip
 have hp:Blk wr (B+1+1) [I (3),I (3+s0*4),I (3+s0*4+s1*16),I (3+s0*4+s1*16+s2*64),I (3+s0*4+s1*16+s2*64+s3*256),I 0,I (s0*4),I (s1*16),I (s2*64),I (s3*256),I (book),I 0,I (3+s0*4+s1*16+s2*64+s3*256+book),I 1,I 0]:=HP.out;have zz119:=PLift.up @c607;exact c602):p:=h
theorem c25 (h:p:=by
 skip
 have hp:Blk wr (B+1+1) [I (3),I (3+s0*4),I (3+s0*4+s1*16),I (3+s0*4+s1*16+s2*64),I 0,I 0,I (s0*4),I (s1*16),I (s2*64),I (s3*256),I 0,I 0,I (3+s0*4+s1*16+s2*64+s3*256),I 1,I 0]:=HP.out;have zz119:=PLift.up @c608;exact c602):p:=h
theorem c26 (h:p:=by
 first
  |(refine Blk.drew ?_;simpa[upto,baseC,szC]using hx)
  |simpa[upto,baseC,szC]using hx):p:=h
theorem c27 (h:p:=by
 have h0:=Blk.new' ((w.alloc (.cells #[.slice A cs.length cp,.slice (some ⟨b0,o0,none⟩) segs.length cp2,I wt,J wv,I u0,I u1,I u2,I u3,I u4,I u5] 49)).alloc (.cells #[I docs,I terms,I q0,I q1,I q2,I q3,I book,I room,kk,bb] 25)) p.flat 42 (b:=w.heap.size+1+1) (by simp)
 exact(h0.alloc _).alloc _):p:=h
theorem c28 (h:p:=by
 clear hb;exact absurd True.intro (by have q0:=H0.out ;have q1:=H1.out ;have q2:=H2.out ;have q3:=H3.out ;have q4:=H4.out ;have q5:=H5.out ;have q6:=H6.out ;have q7:=H7.out ;have q8:=H8.out ;have q9:=H9.out ;have q10:=H10.out ;have q11:=H11.out ;have q12:=H12.out ;have q13:=H13.out ;have q14:=H14.out ;have q15:=H15.out ;omega)):p:=h
theorem c29 (h:p:=by
 repeat(first|exact HBK.out|with_reducible refine Blk.drew ?_|with_reducible refine Blk.drewN ?_ _)):p:=h
theorem c30 (h:p:=by
 have hE:=blk_out10 (HZ.out.keep HBW.out.2.2 hl1) rfl (.slice A3 cs'.length c3) (.slice A4 segs'.length c4) (I t') (J v') (I x0) (I x1) (I x2) (I x3) (I x4) (I x5);have hkn:=keeps_out10 (K:=(· ≠B+1)) (b:=B+1) (Keeps.refl _ wb) (fun h=>h rfl) (.slice A3 cs'.length c3) (.slice A4 segs'.length c4) (I t') (J v') (I x0) (I x1) (I x2) (I x3) (I x4) (I x5);have hs9:=hkn.size;have hs8:=HBW.out.2.2.size
 have hKn:∀b,(K b∨(B≤b∧b<wb.heap.size∧b≠B∧b≠B+1))→b≠B+1:=fun b hb=>hb.elim (fun h=>by have h9:=Hb.out b h;omega) fun h=>h.2.2.2
 generalize ((((((((((wb.setCell ⟨B+1,0,none⟩ (.slice A3 cs'.length c3)).setCell ⟨B+1,1,none⟩ (.slice A4 segs'.length c4)).setCell ⟨B+1,2,none⟩ (I t')).setCell ⟨B+1,3,none⟩ (J v')).setCell ⟨B+1,4,none⟩ (I x0)).setCell ⟨B+1,5,none⟩ (I x1)).setCell ⟨B+1,6,none⟩ (I x2)).setCell ⟨B+1,7,none⟩ (I x3)).setCell ⟨B+1,8,none⟩ (I x4)).setCell ⟨B+1,9,none⟩ (I x5))=W9 at*
 refine⟨A3,c3,A4,c4,rfl,hE,(HBW.out.1.keep hkn hKn).mono fun b hb=>hb.imp (fun h=>h) fun h=>⟨h.1,by omega,h.2.2⟩,(HBW.out.2.1.keep hkn hKn).mono fun b hb=>hb.imp (fun h=>h) fun h=>⟨h.1,by omega,h.2.2⟩,?_⟩
 exact(Hk.out.trans (HBW.out.2.2.mono fun b hb=>by omega)).trans (hkn.mono fun b hb=>by have hb:b<B:=hb;show b≠B+1;omega)):p:=h
theorem c31 (h:p:=by
 have Hcl:=hid hcl;have Hk2:=hid hk2;clear hcl hk2
 go_wp2_with fail
 exact hR'.out _ _ ⟨by rw[←Hcl.out];first|rfl|skip,Hk2.out⟩):p:=h
theorem c32 (h:p:=by
 have Hres9:=hid hres;clear hres;clear Hres
 go_wp2_with fail
 obtain⟨hE,hrr,hkk⟩:=HD4.out.out;unfold WrM.vals at hE;dsimp only at hE hrr hkk;clear y0 y1 y2 y3 y4 y5 y6 y7 y8 z0 z1 z2 z3 z4 z5 z6 z7 z8 f;generalize ((((((((((w3.alloc (.cells #[J rb,J ri,J rl,J rt] 113)).setCell ⟨B+1+1,0,none⟩ (.slice (some ⟨b0,o0,none⟩) segs.length cp)).setCell ⟨B+1+1,1,none⟩ (I wt)).setCell ⟨B+1+1,2,none⟩ (J wv)).setCell ⟨B+1+1,3,none⟩ (I u0)).setCell ⟨B+1+1,4,none⟩ (I u1)).setCell ⟨B+1+1,5,none⟩ (I u2)).setCell ⟨B+1+1,6,none⟩ (I u3)).setCell ⟨B+1+1,7,none⟩ (I u4)).setCell ⟨B+1+1,8,none⟩ (I u5))=WZ at*
 obtain⟨d0,d1,d2,d3,d4,d5,d6,d7,d8⟩:=hE.c9;refine bodyPost_ret (v:= .tuple #[.agg #[.slice (some ⟨b0,o0,none⟩) segs.length cp,I wt,J wv,I u0,I u1,I u2,I u3,I u4,I u5],I 7]) ?_ rfl ?_
 ·simp[results,Tryz.results35,go_sem,d0,d1,d2,d3,d4,d5,d6,d7,d8]
 ·refine hR'.out _ _ ?_;rw[Hres9.out];exact⟨rfl,hrr,hkk⟩):p:=h
theorem c33 (h:p:=by
 obtain⟨h1,o,h2,h3⟩:=mem_ready.1 hi;have h2':l[i]? =some o:=by simpa using h2
 have hrt:i∈Region.ready md (l.take n).toArray L:=by
  refine mem_ready.2 ⟨by rw[←hLL i hin];exact h1,o,by simpa[List.getElem?_take,hin]using h2',fun e he hb=>?_⟩
  have h4:=hdep i o hin h2' e he hb;have h5:=h3 e he hb;have h6:listed.getD e.on true=true:=by
   have:e.on<listed.size:=by omega
   simp[this]at h5 ⊢;exact h5
  exact getD_flip (by omega) (by rw[←hLL _ (by omega)];exact h6)
 refine wpOp_mono (fun a' w' h'=>⟨hSS _ h'.1,?_⟩) (wpOp_behind hin (fun o ho=>hg i o hin ho) (h.2 i hrt));refine ih _ _ a' w' (inv.set hi hin) (fun k hk=>?_) (by simp[hL]) (fun j hj=>?_) h'.2
 ·by_cases hik:i=k
  ·subst hik;have:=hpre i hk;rw[getD_both h1]at this
   cases this
  ·rw[getD_set_ne false hik];exact hpre k hk
 ·by_cases hij:i=j
  ·subst hij
   simp[hsz,hL,hj,show i<l.length by omega]
  ·rw[getD_set_ne true hij,getD_set_ne true hij];exact hLL j hj):p:=h
theorem c34 (h:p:=by
 clear hb;exact absurd True.intro (by have q0:=H0.out ;have q1:=H1.out ;have q2:=H2.out ;have q3:=H3.out ;have q4:=H4.out ;have q5:=H5.out ;have q6:=H6.out ;have q7:=H7.out ;have q8:=H8.out ;have q9:=H9.out ;have q10:=H10.out ;have q11:=H11.out ;have q12:=H12.out ;have q13:=H13.out ;have q14:=H14.out ;omega)):p:=h
theorem c35 (h:p:=by
 clear hb;exact absurd True.intro (by have q0:=H0.out ;have q1:=H1.out ;have q2:=H2.out ;have q3:=H3.out ;have q4:=H4.out ;have q5:=H5.out ;have q6:=H6.out ;have q7:=H7.out ;have q8:=H8.out ;have q9:=H9.out ;have q10:=H10.out ;omega)):p:=h
theorem c36 (h:p:=by
 obtain rfl:i=fs.length:=by omega
 have hltI2:¬(fs.length:Int)<(fs.length:Int):=by omega
 have hex:=HE.out;rw[List.drop_length]at hex;have hex:acc++[]=toksL 0 fs:=hex;rw[List.append_nil]at hex
 by_cases h64:64<acc.length
 ·have h64I:(64:Int)<(acc.length:Int):=by omega
  have hr:res=none:=by rw[Hres.out];unfold toksM;rw[Hlong.out,if_neg (by simp),←hex,if_pos h64]
  clear hex HE;have Hr:=hid hr;clear hr
  go_wp2_with fail
  refine hR'.out _ _ ⟨?_,HK.out⟩
  first|(rw[Hr.out];done)|(rw[Hr.out];rfl)
 ·have h64I:¬(64:Int)<(acc.length:Int):=by omega
  have hr:res=some acc:=by rw[Hres.out];unfold toksM;rw[Hlong.out,if_neg (by simp),←hex,if_neg h64]
  clear hex HE;have Hr:=hid hr;clear hr
  go_wp2_with fail
  refine hR'.out _ _ ⟨?_,HK.out⟩;rw[Hr.out];exact⟨_,rfl,HO.out⟩):p:=h
theorem c37 (h:p:=by
 repeat(first|exact Hb0.out|with_reducible refine Blk.drew ?_|with_reducible refine Blk.drewN ?_ _)):p:=h
theorem c38 (h:p:=by
 repeat(first|exact Hb1.out|with_reducible refine Blk.drew ?_|with_reducible refine Blk.drewN ?_ _)):p:=h
theorem c39 (h:p:=by
 repeat(first|exact Hb2.out|with_reducible refine Blk.drew ?_|with_reducible refine Blk.drewN ?_ _)):p:=h
theorem c40 (h:p:=by
 clear hb;exact absurd True.intro (by have q0:=H0.out ;have q1:=H1.out ;have q2:=H2.out ;have q3:=H3.out ;have q4:=H4.out ;have q5:=H5.out ;have q6:=H6.out ;have q7:=H7.out ;have q8:=H8.out ;have q9:=H9.out ;omega)):p:=h
theorem c41 (h:p:=by
 subst htn;have h1:=List.all_eq_true.1 hs i (List.mem_range.2 hi);simp only[Bool.or_eq_true]at h1
 rcases h1 with h1|h1
 ·have:=hpre i (by simpa using h1)
  rw[getD_both hun]at this
  cases this
 obtain⟨j,hj,hj2⟩:=List.any_eq_true.1 h1;simp only[Bool.and_eq_true,decide_eq_true_eq]at hj2;obtain⟨oj,hoj,e,he,hb,hon⟩:=Region.waitsFor_spec hj2.2;have hjle:j≤t:=by have:=List.mem_range.1 hj;omega
 by_cases hjt:j=t
 ·subst hjt;obtain rfl:oj=ot:=Option.some.inj (hoj.symm.trans hot);have h2:=hall e he hb;rw[hon,getD_both hun]at h2
  cases h2
 ·cases hl:listed.getD j false with
  |true=>
   have h2:=inv.closed j oj hoj hl e he hb;rw[hon,getD_both hun]at h2
   cases h2
  |false=>
   have hjs:j<listed.size:=by rw[inv.size];simp;simp at htlt;omega
   exact ih (t-j) (by omega) j rfl (by omega) (getD_in hjs hl) t (Nat.le_refl _) hr):p:=h
theorem c42 (h:p:=by
 refine⟨_,_,rfl,rfl,rfl,rfl,?_,?_,?_,?_,?_,?_⟩
 ·first|with_reducible exact HBW.out.1|with_reducible exact Nat.le_of_lt HBW.out.1
 ·first|with_reducible exact Nat.le_refl _|with_reducible exact HBW.out.2.2.size
 ·first|with_reducible exact Nat.ne_of_gt HBW.out.1|with_reducible exact Nat.ne_of_lt HBW.out.2.1.lt
 ·repeat(first|with_reducible exact Blk.new _ _ _|with_reducible exact HBW.out.2.2.1.set6 _ _ _ _ _ _ rfl|with_reducible refine Blk.drew ?_)
 ·repeat(first|with_reducible exact HBW.out.2.1.alloc _|with_reducible exact HBW.out.2.1.set6_ne _ _ _ _ _ _ (Nat.ne_of_gt HBW.out.1)|with_reducible refine Blk.drew ?_)
 ·repeat(first|with_reducible exact HBW.out.2.2.2|with_reducible exact HBW.out.2.2|with_reducible refine Keeps.drew ?_|with_reducible refine Keeps.setCell ?_ ?_ _|with_reducible refine Keeps.alloc ?_ ?_ _)
  all_goals first|(intro b hb;have:=HBW.out.2.2.size;omega)|simp):p:=h
theorem c43 (h:p:=by
 clear hb;exact absurd True.intro (by have q0:=H0.out ;have q1:=H1.out ;have q2:=H2.out ;have q3:=H3.out ;have q4:=H4.out ;have q5:=H5.out ;have q6:=H6.out ;have q7:=H7.out ;have q8:=H8.out ;omega)):p:=h
theorem c44 (h:p:=by
 clear hb;exact absurd True.intro (by have q0:=H0.out ;have q1:=H1.out ;have q2:=H2.out ;have q3:=H3.out ;have q4:=H4.out ;have q5:=H5.out ;have q6:=H6.out ;have q7:=H7.out ;have q8:=H8.out ;have q9:=H9.out ;have q10:=H10.out ;have q11:=H11.out ;omega)):p:=h
theorem c45 (h:p:=by
 have HE:=hid (HAT.out (HHS.out.2 ⟨h1,h2⟩))
 go_wp2_with fail
 go_quiet (fail)
 go_wp2_with fail
 go_quiet (fail)
 go_wp2_with fail
 refine hR'.out _ _ ⟨?_,?_⟩
 ·rw[HE.out];rfl
 ·rw[←Hw.out];exact((Hk0.out.drewN q).drewN _).drewN _):p:=h
theorem c46 (h:p:=by
 clear hb;exact absurd True.intro (by have q0:=H0.out ;have q1:=H1.out ;have q2:=H2.out ;have q3:=H3.out ;have q4:=H4.out ;have q5:=H5.out ;have q6:=H6.out ;have q7:=H7.out ;omega)):p:=h
theorem c47 (h:p:=by
 first|with_reducible exact Blk.set6 hD1 _ _ _ _ _ _ (by simp)|with_reducible exact(Blk.set6 hD1 _ _ _ _ _ _ (by simp)).drew):p:=h
theorem c48 (h:p:=by
 go_quiet (fail)
 go_wp2_with fail
 refine bodyPost_ret (v:= .tuple #[I 0,.agg #[I 0,I 0,I 0,I 0,I 0,I 0],I 3]) ?_ rfl ?_
 ·simp[results,Tryz.results43,go_sem]
 ·refine hR'.out _ _ ⟨rfl,?_⟩;exact kA):p:=h
theorem c49 (h:p:=by
 first|exact HS.out.drew|exact HS.out):p:=h
theorem c50 (h:p:=by
 repeat(first|with_reducible exact Hkf.out|with_reducible refine Keeps.drew ?_|with_reducible refine Keeps.setCell ?_ ?_ _)
 all_goals(simp)):p:=h
theorem c51 (h:p:=by
 have Hr:=hid hr;clear hr
 go_wp2_with fail
 refine hR'.out _ _ ⟨?_,Keeps.refl _ _⟩
 first|(rw[Hr.out];done)|(rw[Hr.out];rfl)):p:=h
theorem c52 (h:p:=by
 clear hb;exact absurd True.intro (by have q0:=H0.out ;have q1:=H1.out ;have q2:=H2.out ;have q3:=H3.out ;have q4:=H4.out ;have q5:=H5.out ;have q6:=H6.out ;have q7:=H7.out ;have q8:=H8.out ;have q9:=H9.out ;have q10:=H10.out ;have q11:=H11.out ;have q12:=H12.out ;have q13:=H13.out ;omega)):p:=h
theorem c53 (h:p:=by
 have hst:=hm.set 0 (I (m0+n0));have hkk:=HK.out.setCell (p:=⟨B+1+1,0,none⟩) (fun h=>Nat.lt_irrefl _ h) (I (m0+n0));have hfz:=hm.free 0;have hix:(Instr.index 40 (.agg #[I n0,I n1,I n2,I n3,I n4,I n5]) (I 0)).run Tryz.prog wr= .ok (I n0) wr:=by kernel_rfl
 have zz65:=PLift.up @c367;exact c366):p:=h
theorem c54 (h:p:=by
 have hst:=hm.set 1 (I (m1+n1));have hkk:=HK.out.setCell (p:=⟨B+1+1,1,none⟩) (fun h=>Nat.lt_irrefl _ h) (I (m1+n1));have hfz:=hm.free 1;have hix:(Instr.index 40 (.agg #[I n0,I n1,I n2,I n3,I n4,I n5]) (I 1)).run Tryz.prog wr= .ok (I n1) wr:=by kernel_rfl
 have zz65:=PLift.up @c368;exact c366):p:=h
theorem c55 (h:p:=by
 have hst:=hm.set 2 (I (m2+n2));have hkk:=HK.out.setCell (p:=⟨B+1+1,2,none⟩) (fun h=>Nat.lt_irrefl _ h) (I (m2+n2));have hfz:=hm.free 2;have hix:(Instr.index 40 (.agg #[I n0,I n1,I n2,I n3,I n4,I n5]) (I 2)).run Tryz.prog wr= .ok (I n2) wr:=by kernel_rfl
 have zz65:=PLift.up @c369;exact c366):p:=h
theorem c56 (h:p:=by
 have hst:=hm.set 3 (I (m3+n3));have hkk:=HK.out.setCell (p:=⟨B+1+1,3,none⟩) (fun h=>Nat.lt_irrefl _ h) (I (m3+n3));have hfz:=hm.free 3;have hix:(Instr.index 40 (.agg #[I n0,I n1,I n2,I n3,I n4,I n5]) (I 3)).run Tryz.prog wr= .ok (I n3) wr:=by kernel_rfl
 have zz65:=PLift.up @c370;exact c366):p:=h
theorem c57 (h:p:=by
 have hst:=hm.set 5 (I (m5+n5));have hkk:=HK.out.setCell (p:=⟨B+1+1,5,none⟩) (fun h=>Nat.lt_irrefl _ h) (I (m5+n5));have hfz:=hm.free 5;have hix:(Instr.index 40 (.agg #[I n0,I n1,I n2,I n3,I n4,I n5]) (I 5)).run Tryz.prog wr= .ok (I n5) wr:=by kernel_rfl
 have zz65:=PLift.up @c371;exact c366):p:=h
theorem c58 (h:p:=by
 go_wp2_with fail
 exact hR'.out _ _ ⟨rfl,Keeps.refl _ _⟩):p:=h
theorem c59 (h:p:=by
 first|(rw[Hr.out];done)|(rw[Hr.out];rfl)):p:=h
theorem c60 (h:p:=by
 first
  |(refine Blk.drew ?_;simpa[six,upto,szC,Int.mul_comm]using hx)
  |simpa[six,upto,szC,Int.mul_comm]using hx):p:=h
theorem c61 (h:p:=by
 exact((((((hB2.set 0 _).set 1 _).set 2 _).set 3 _).set 4 _).set 5 _).drew):p:=h
theorem c62 (h:p:=by
 repeat(first|with_reducible refine Blk.drew ?_|with_reducible refine BlkN.drew ?_|with_reducible refine BlkN.set15 ?_ _ _ _ _ _ _ _ _ _ _ _ _ _ _ _|with_reducible refine BlkN.set_ne ?_ _ ?_|with_reducible exact BlkN.of15 (by with_reducible assumption))
 all_goals(first|(simp;done)|(simp;omega))):p:=h
theorem c63 (h:p:=by
 clear hb;exact absurd True.intro (by have q0:=H0.out ;have q1:=H1.out ;have q2:=H2.out ;have q3:=H3.out ;have q4:=H4.out ;have q5:=H5.out ;have q6:=H6.out ;omega)):p:=h
theorem c64 (h:p:=by
 rw[e]at this;unfold Tree.ideal at this
 split at this
 ·obtain⟨z,_,hz⟩:=Option.map_eq_some_iff.1 this;rw[←hz]at h0;simp at h0
 ·cases this):p:=h
theorem c65 (h:p:=by
 have h0:=Blk.new w [I b0,I b1,I b2,I b3,I b4,I b5,I s0,I s1,I s2,I s3,I s4,I s5,I pc,I ps,I pl] 42;exact(h0.alloc _).alloc _):p:=h
theorem c66 (h:p:=by
 intro L listed a w inv hpre hL hLL h
 by_cases hA:∀i,i<n→listed.getD i true=true
 ·exact done 0 listed a w inv hA h.2
 ·obtain⟨i,hi,hu,hm⟩:=min_unlisted hA;have hr:i∈Region.ready md (l.take n).toArray L:=by
   refine mem_ready.2 ⟨by rw[←hLL i hi];exact hu,l[i],by simp[List.getElem?_take,hi],fun e he hb=>?_⟩
   have h1:=hdep i l[i] hi (by simp) e he hb
   exact getD_flip (by omega) (by rw[←hLL _ (by omega)];exact hm _ h1)
  rw[h.1]at hr
  cases hr):p:=h
theorem c67 (h:p:=by
 have hfz:=hm.free 4;have hix:(Instr.index 40 (.agg #[I n0,I n1,I n2,I n3,I n4,I n5]) (I 4)).run Tryz.prog wr= .ok (I n4) wr:=by kernel_rfl
 have zz65:=PLift.up @c372;exact c366):p:=h
theorem c68 (h:p:=by
 have hl:=h.1
 rcases h.2 with⟨h1,h2⟩|⟨b,cap,cur,h1,h0,h3,h4,h5,h6,h7⟩
 ·exact⟨none,0,by rw[h1,h2],by omega,Nat.zero_le _,hl,fun hn=>by omega⟩
 ·refine⟨some ⟨b,0,none⟩,cap,h1,h4,h5,hl,fun hn=>⟨b,0,rfl,ownB_lt h (by rw[h1];rfl),fun j u hu=>?_⟩⟩
  exact c430):p:=h
theorem c69 (h:p:=by
 first|with_reducible exact Blk.set6 hE2 _ _ _ _ _ _ (by simp)|with_reducible exact(Blk.set6 hE2 _ _ _ _ _ _ (by simp)).drew):p:=h
theorem c70 (h:p:=by
 obtain⟨z0,hz0,hzk⟩:=T.has z (List.mem_cons_of_mem _ hz);obtain⟨j,hj⟩:=List.mem_iff_getElem?.1 hz0
 by_cases c1:keyIx (keyB x.1 x.2.1) all=j
 ·subst c1;rw[hy]at hj;injection hj with hj;subst hj
  exact⟨_,List.mem_iff_getElem?.2 ⟨_,List.getElem?_set_self (List.getElem?_eq_some_iff.1 hy).1⟩,hzk⟩
 ·exact⟨z0,List.mem_iff_getElem?.2 ⟨j,by rw[List.getElem?_set_ne c1];exact hj⟩,hzk⟩):p:=h
theorem c71 (h:p:=by
 refine bodyPost_ret (v:= .tuple #[I er,.agg #[.slice A3 cs'.length c3,.slice A4 segs'.length c4,I t',J v',I x0,I x1,I x2,I x3,I x4,I x5]]) ?_ rfl ?_
 ·simp[results,Tryz.results15,go_sem,d0,d1,d2,d3,d4,d5,d6,d7,d8,d9]
 ·exact hR'.out _ _ ⟨_,_,rfl,HG1.out.mono fun b hb=>hb.imp (fun h=>h) fun h=>⟨by omega,h.2.1⟩,HG2.out.mono fun b hb=>hb.imp (fun h=>h) fun h=>⟨by omega,h.2.1⟩,by rw[hBB];exact HK9.out⟩):p:=h
theorem c72 (h:p:=by
 have HR6:=hid hR6;have HK6:=hid hK6;have HO6:=hid hO6;have HC6:=hid hC6;clear hR6 hK6 hO6 hC6;clear hown' hgr hfr hal hwl hi9 hz0 hz1 hz2 y0 y1 y2 y3
 go_wp2_with fail
 go_roundw
 case rel=>exact⟨i+1,_,out2,A9,cp9,by rw[hll],by go_num,by omega,by omega,HC6,Hnx,HR6,HO6,HK6⟩
 case measure=>exact msA):p:=h
theorem c73 (h:p:=by
 simp[results,Tryz.results36,go_sem,d0,d1,d2,d3,d4,d5,d6,d7,d8]):p:=h
theorem c74 (h:p:=by
 have hK7:=HK2.out.trans (HK4.out.mono fun b hb=>Or.inl hb);clear HE2 HO4 HK4;have Hex3:=hid hex;have HO7:=hid hO7;have HK7:=hid hK7;clear hex hO7 hK7
 go_wp2_with fail
 go_roundw
 case rel=>exact⟨i+1,acc2,A2,c2,rfl,by go_num,by omega,by omega,Hex3,HO7,HK7⟩
 case measure=>exact msA):p:=h
theorem c75 (h:p:=by
 go_wp2_with fail
 go_quiet (fail)
 go_wp2_with fail
 go_roundw
 case rel=>
  refine⟨1,q+nq,by first|rfl|go_num,by omega,by rw[←Hw.out,World.drewN_drewN],hid fun j hj=>?_⟩
  by_cases e:j<0
  ·exact HN.out j e
  ·have e:j=0:=by omega
   subst e;rw[HHP.out];exact HE.out
 case measure=>simp[intOf]):p:=h
theorem c76 (h:p:=by
 go_wp2_with fail
 go_quiet (fail)
 go_wp2_with fail
 go_roundw
 case rel=>
  refine⟨2,q+nq,by first|rfl|go_num,by omega,by rw[←Hw.out,World.drewN_drewN],hid fun j hj=>?_⟩
  by_cases e:j<1
  ·exact HN.out j e
  ·have e:j=1:=by omega
   subst e;rw[HHP.out];exact HE.out
 case measure=>simp[intOf]):p:=h
theorem c77 (h:p:=by
 go_wp2_with fail
 go_quiet (fail)
 go_wp2_with fail
 go_roundw
 case rel=>
  refine⟨3,q+nq,by first|rfl|go_num,by omega,by rw[←Hw.out,World.drewN_drewN],hid fun j hj=>?_⟩
  by_cases e:j<2
  ·exact HN.out j e
  ·have e:j=2:=by omega
   subst e;rw[HHP.out];exact HE.out
 case measure=>simp[intOf]):p:=h
theorem c78 (h:p:=by
 go_wp2_with fail
 go_quiet (fail)
 go_wp2_with fail
 go_roundw
 case rel=>
  refine⟨4,q+nq,by first|rfl|go_num,by omega,by rw[←Hw.out,World.drewN_drewN],hid fun j hj=>?_⟩
  by_cases e:j<3
  ·exact HN.out j e
  ·have e:j=3:=by omega
   subst e;rw[HHP.out];exact HE.out
 case measure=>simp[intOf]):p:=h
theorem c79 (h:p:=by
 clear hl hv;have Hk2:=hid hk2;have E1:=hid e1;have E2:=hid e2;clear hk2 e1 e2
 go_wp2_with fail
 exact hR'.out _ _ ⟨by rw[E1.out,E2.out];rfl,Hk2.out⟩):p:=h
theorem c80 (h:p:=by
 go_wp2_with fail
 exact hR'.out _ _ ⟨⟨_,rfl⟩,rfl⟩):p:=h
theorem c81 (h:p:=by
 have He:=hid he;have Hn:=hid hn;clear he hn
 go_wp2_with fail
 exact hR'.out _ _ ⟨_,rfl,by rw[He.out];exact Hn.out⟩):p:=h
theorem c82 (h:p:=by
 refine⟨?_,?_⟩
 ·simpa[List.flatMap_append,TermM.cells]using hown'
 ·intro b hb hKb
  rcases hfr with h|⟨b',h,h2⟩
  ·exact HO4.out.2 b (h▸hb) hKb
  ·rw[h]at hb;injection hb with hb
   have h3:=hwl b (Or.inl (Or.inl hKb))
   simp at h3
   omega):p:=h
theorem c83 (h:p:=by
 repeat(first|with_reducible exact Hkf.out|with_reducible refine Keeps.drew ?_|with_reducible refine Keeps.setCell ?_ ?_ _)
 all_goals(intro hb;have:=Hlt'.out _ hb;simp at this;omega)):p:=h
theorem c84 (h:p:=by
 go_wp2_with fail
 exact hR'.out _ _ ⟨rfl,rfl⟩):p:=h
theorem c85 (h:p:=by
 intro i h1 h2
 rcases Nat.lt_or_ge i n with hi|hi
 ·have:=hA i hi;rw[Array.getElem_append_left (by simpa using hi)]
  simp[h1]at this ⊢;exact this
 ·have:=inv.tail i hi (by rw[hsz]at h1;simpa using h1)
  rw[Array.getElem_append_right (by simpa using hi)]
  simp[h1]at this ⊢;exact this):p:=h
theorem c86 (h:p:=by
 repeat(first|with_reducible exact Hrf.out|with_reducible exact Hg2'.out|with_reducible refine RM.drew ?_|with_reducible refine RM.setK ?_ ?_ _)
 all_goals exact Hg2'.out):p:=h
theorem c87 (h:p:=by
 clear hb;exact absurd True.intro (by have q0:=H0.out ;have q1:=H1.out ;have q2:=H2.out ;have q3:=H3.out ;have q4:=H4.out ;have q5:=H5.out ;have q6:=H6.out ;have q7:=H7.out ;have q8:=H8.out ;have q9:=H9.out ;have q10:=H10.out ;have q11:=H11.out ;have q12:=H12.out ;omega)):p:=h
theorem c88 (h:p:=by
 simp[results,Tryz.results38,go_sem,d0,d1,d2,d3,d4,d5,d6,d7,d8,d9]):p:=h
theorem c89 (h:p:=by
 clear hb;exact absurd True.intro (by have q0:=H0.out ;have q1:=H1.out ;have q2:=H2.out ;have q3:=H3.out ;have q4:=H4.out ;have q5:=H5.out ;omega)):p:=h
theorem c90 (h:p:=by
 have hsI:¬(512:Int)<(x.size:Int):=by omega
 have hn2:=any_take hx HN.out (by simpa using hs)
 clear hx HN;have Hn2:=hid hn2;clear hn2
 go_wp2_with fail
 go_roundw
 case rel=>exact⟨i+1,by go_num,by omega,Hn2,by first|trivial|rfl⟩
 case measure=>exact msA):p:=h
theorem c91 (h:p:=by
 by_cases hkk:k=key
 ·subst hkk;refine⟨m+1,by omega,?_⟩
  rw[probe_hit e]
  simp[Tree.ideal]
 ·have hne:packC k≠packC key:=fun e=>hkk (packC_inj r4 hk hl e);refine⟨cnt+m+1,by omega,?_⟩
  rw[probe_miss e hkk]
  simp[hne,hi']):p:=h
theorem c92 (h:p:=by
 exact hR'.out _ _ ⟨rfl,hkk⟩):p:=h
theorem c93 (h:p:=by
 refine done (f+1) listed a w inv hA ?_;refine h.1 ?_
 apply List.eq_nil_iff_forall_not_mem.2
 intro i hi;obtain⟨h1,o,h2,_⟩:=mem_ready.1 hi;have hin:i<n:=by
  have:=(Array.getElem?_eq_some_iff.1 h2).1
  simp at this;omega
 rw[←hLL i hin,hA i hin]at h1
 cases h1):p:=h
theorem c94 (h:p:=by
 go_wp2_with fail
 refine(HFIX.out wr HWr.out.kp).mono ?_;rintro e w9 ⟨rfl,hk9⟩;have hk99:=HWr.out.kp.trans (hk9.mono fun b hb=>by have:=HWr.out.kp.size;omega)
 clear hk9;have Hk99:=hid hk99;clear hk99
 go_wp2_with fail
 exact hR'.out _ _ ⟨rfl,Hk99.out⟩):p:=h
theorem c95 (h:p:=by
 have hj':l[j]? =some oj:=by simpa using hj
 have h1:=List.all_eq_true.1 p2 j (List.mem_range.2 (List.getElem?_eq_some_iff.1 hj').1);rw[hj',hl]at h1;simp only[Bool.not_true,Bool.false_or]at h1;have h2:=Array.all_eq_true_iff_forall_mem.1 h1 e he;rw[hb]at h2
 simpa using h2):p:=h
theorem c96 (h:p:=by
 induction t with
 |ret x=>rfl
 |load a k ih=>rfl
 |store a v k ih=>rfl
 |off k ih=>exact ih false):p:=h
theorem c97 (h:p:=by
 obtain⟨d0,d1,t0,t1,a0,a1,b0,b1,c0,c1,e0,e1,k0,k1,r0,r1⟩:=hcf;unfold ConfM.all at hall;unfold ConfM.plan ConfM.all;dsimp only;refine⟨by omega,by omega,by omega,?_,?_⟩
 ·split
  ·omega
  ·split<;>omega
 ·split
  ·omega
  ·split<;>omega):p:=h
theorem c98 (h:p:=by
 have Hex2:=hid hex;clear hex;clear Hex
 go_wp2_with fail
 go_roundw
 case rel=>exact⟨i+1,acc,o,true,true,A1,A2,c1,c2,rfl,rfl,rfl,rfl,by go_num,by omega,by omega,ho,HT5,Hex2⟩
 case measure=>exact msA):p:=h
theorem c99 (h:p:=by
 go_wp2_with fail
 go_step3
 go_wp2_with fail
 exact hR'.out _ _ ⟨by rw[hm];rfl,Keeps.refl _ _⟩):p:=h
theorem c100 (h:p:=by
 exact hR'.out _ _ ⟨⟨rfl,hrr.mono HKG.out⟩,hkk⟩):p:=h
theorem c101 (h:p:=by
 have H:=hid h;have Hin:=hid hin;clear h hin;refine calls_hide fun R' hR'=>?_
 go_enter Tryz.func44,Tryz.ntmps44
 go_wp2
 refine hR'.out _ _ ⟨by rw[Hin.out];rfl,?_,Keeps.refl _ _⟩
 unfold MemS.store;rw[Hin.out];exact H.out):p:=h
theorem c102 (h:p:=by
 have H:=hid h;have Hin:=hid hin;clear h hin;refine calls_hide fun R' hR'=>?_
 go_enter Tryz.func18,Tryz.ntmps18
 go_wp2
 refine hR'.out _ _ ⟨by rw[Hin.out];rfl,?_,Keeps.refl _ _⟩
 unfold MemS.load;rw[Hin.out];exact H.out):p:=h
theorem c103 (h:p:=by
 simp[results,Tryz.results43,go_sem,d0,d1,d2,d3,d4,d5]):p:=h
theorem c104 (h:p:=by
 have Hr:=hid hr;clear hr
 go_wp2_with fail
 refine hR'.out _ _ ⟨?_,HN2.out⟩;rw[Hr.out];rfl):p:=h
theorem c105 (h:p:=by
 clear hl hv;have Hk2:=hid hk2;clear hk2
 go_wp2_with fail
 exact hR'.out _ _ ⟨rfl,Hk2.out⟩):p:=h
theorem c106 (h:p:=by
 go_wp2_with fail
 exact hR'.out _ _ ⟨rfl,HK.out⟩):p:=h
theorem c107 (h:p:=by
 have h0:=Blk.new w p.flat 42;exact(h0.alloc _).alloc _):p:=h
theorem c108 (h:p:=by
 rw[hval];exact⟨⟨g,HR1.out,hgb⟩,H.out.mem.keep HK1.out (fun e=>H.out.rm e.symm) (fun e=>H.out.rc e.symm),H.out.rm,H.out.rc,H.out.kr,H.out.km,H.out.kc,
  fun b hb=>by have:=H.out.lt b hb;have:=HK1.out.size;omega⟩):p:=h
theorem c109 (h:p:=by
 have H4:Hid ((1040≤r∧r≤1071)):=hid (hb.1 rfl);clear hb;exact absurd True.intro (by have q0:=H0.out ;have q1:=H1.out ;have q2:=H2.out ;have q3:=H3.out ;have q4:=H4.out ;omega)):p:=h
theorem c110 (h:p:=by
 have Hcl:=hid hcl;have Hk2:=hid hk2;clear hcl hk2
 go_wp2_with fail
 go_roundw
 case rel=>exact⟨i+1,rfl,by go_num,by omega,Hcl,Hk2⟩
 case measure=>exact msA):p:=h
theorem c111 (h:p:=by
 exact(HSA.out.keep hz fun b hb=>by rcases hb with h|h;(have:=Hnwc.out b h;show b<w14.heap.size;omega);(show b<w14.heap.size;omega)).mono fun b hb=>hb.imp (fun h=>h) fun h=>⟨by omega,by omega⟩):p:=h
theorem c112 (h:p:=by
 exact(HF1.out.keep hz fun b hb=>by rcases hb with h|h;(have:=Hnwc.out b h;show b<w14.heap.size;omega);(show b<w14.heap.size;omega)).mono fun b hb=>hb.imp (fun h=>h) fun h=>⟨by omega,by omega⟩):p:=h
theorem c113 (h:p:=by
 exact(HF2.out.keep hz fun b hb=>by rcases hb with h|h;(have:=Hnwc.out b h;show b<w14.heap.size;omega);(show b<w14.heap.size;omega)).mono fun b hb=>hb.imp (fun h=>h) fun h=>⟨by omega,by omega⟩):p:=h
theorem c114 (h:p:=by
 rw[if_neg c1]at hj;have hzk:=hoth j z hj (fun e=>c1 e.symm);have:=T.cnt z (List.mem_of_getElem? hj) hr;rw[cntK_other l (fun e=>hzk (by rw[←e,hyk]))]at this
 exact this):p:=h
theorem c115 (h:p:=by
 have Hr:=hid hr;clear hr
 go_wp2_with fail
 go_roundw
 case rel=>exact⟨k+1,by go_num,by omega,Hr,by first|trivial|rfl⟩
 case measure=>exact msA):p:=h
theorem c116 (h:p:=by
 rw[V6.g_of _ h3,V6.g_of _ h3];have a1:=D.used k h3;have a2:=w2.used k h3;have a3:sz k*q k≤sz k*q2 k:=Nat.mul_le_mul_left _ (w10 k);rw[a1,a2]
 exact_mod_cast a3):p:=h
theorem c117 (h:p:=by
 simp[results,Tryz.results83,go_sem,d0,d1,d2,d3,d4,d5]):p:=h
theorem c118 (h:p:=by
 simp[results,Tryz.results108,go_sem,d0,d1,d2,d3,d4,d5]):p:=h
theorem c119 (h:p:=by
 go_wp2_with fail
 go_roundw
 case rel=>exact⟨k+1,s4,by go_num,by omega,Hr6.out,Hk6'.out,Hnx.out⟩
 case measure=>simp[intOf];omega):p:=h
theorem c120 (h:p:=by
 have:k=0∨k=1∨k=2∨k=3:=by omega
 rcases this with rfl|rfl|rfl|rfl<;>decide):p:=h
theorem c121 (h:p:=by
 have h1:=List.all_eq_true.1 hall i (List.mem_range.2 hi);rw[ho]at h1;simp only[Bool.and_eq_true]at h1;have h2:=Array.all_eq_true_iff_forall_mem.1 h1.1 e he;rw[hb]at h2
 simpa using h2):p:=h
theorem c122 (h:p:=by
 go_wp2_with fail
 exact hR'.out _ _ ⟨by rw[HD.out]<;>rfl,Hk.out⟩):p:=h
theorem c123 (h:p:=by
 exact hR'.out _ _ ⟨rfl,hk⟩):p:=h
theorem c124 (h:p:=by
 simp[results,Tryz.results28,go_sem,p0,p1,p2,p3,p4,p5,p6,p7,p8,p9,p10,p11,p12,p13,p14]):p:=h
theorem c125 (h:p:=by
 repeat(first|with_reducible exact HkK.out|with_reducible refine Keeps.drew ?_|with_reducible refine Keeps.setCell ?_ ?_ _)
 all_goals(intro hb;have:=Hlt'.out _ hb;simp at this;omega)):p:=h
theorem c126 (h:p:=by
 have:=congrArg List.length h4
 simp at this;omega):p:=h
theorem c127 (h:p:=by
 rw[Hres.out];unfold toksM longF;rw[if_pos];simp only[Bool.or_eq_true,decide_eq_true_eq,List.any_eq_true];exact Or.inr ⟨x,List.mem_of_getElem? hx,hs⟩):p:=h
theorem c128 (h:p:=by
 have Hk:=hid hk;clear hk
 go_wp2_with fail
 exact hR'.out _ _ ⟨false,rfl,by first|exact Hk.out|exact⟨fun h=>absurd h (by decide),fun h=>(Hk.out.2 h).elim⟩,rfl⟩):p:=h
theorem c129 (h:p:=by
 have h1:=List.all_eq_true.1 p3 t (List.mem_range.2 (by simpa using ht'))
 simp only[Bool.or_eq_true,decide_eq_true_eq]at h1
 rcases h1 with h1|h1
 ·omega
 ·simpa using h1):p:=h
theorem c130 (h:p:=by
 intro w' hg' hb';have HB:=hid hb';clear hb'
 go_wp2
 refine hR'.out _ _ ⟨rfl,⟨32,?_⟩,Below.keeps HB.out fun b hb=>hb⟩;have:=hg'.out;rw[this]
 congr 3
 simp[splice]):p:=h
theorem c131 (h:p:=by
 obtain⟨h9,h8⟩:=List.getElem?_eq_some_iff.1 hr;rw[List.drop_eq_getElem_cons h9,h8]):p:=h
theorem c132 (h:p:=by
 repeat(first|with_reducible exact HR1.out|with_reducible exact Hg2'.out|with_reducible refine RM.drew ?_|with_reducible refine RM.setK ?_ ?_ _)
 all_goals exact Hg2'.out):p:=h
theorem c133 (h:p:=by
 rw[if_neg hg,if_pos rfl];refine⟨fun hn=>?_,fun _=>rfl⟩
 exfalso
 rw[hl]at hn;obtain⟨h1,h2⟩:=hn
 repeat' split at h2
 all_goals omega):p:=h
theorem c134 (h:p:=by
 rcases(by omega:j=0∨j=1∨j=2∨j=3)with rfl|rfl|rfl|rfl<;>omega):p:=h
theorem c135 (h:p:=by
 rintro e w' ⟨rfl,h1,h2⟩;rw[Tree.exec_bind];exact⟨⟨_,rfl⟩,h1,h2⟩):p:=h
theorem c136 (h:p:=by
 rcases List.mem_append.1 ht' with h|h
 ·have:=HC.out t' h;omega
 ·rw[List.mem_singleton]at h;subst h;dsimp only;omega):p:=h
theorem c137 (h:p:=by
 unfold WrM.vals;dsimp only;exact bA):p:=h
theorem c138 (h:p:=by
 rw[h.cells.cell];unfold MemS.at;rw[List.getElem?_map,List.getElem?_eq_getElem (by omega),List.getD_eq_getElem?_getD,List.getElem?_eq_getElem (by omega)];rfl):p:=h
theorem c139 (h:p:=by
 refine mem_ready.2 ⟨hu0,l[i0],by simp,fun e he hb=>?_⟩
 have h1:=hdep i0 l[i0] hi0 (by simp) e he hb
 exact getD_flip (by omega) (hm0 _ h1)):p:=h
theorem c140 (h:p:=by
 obtain⟨x,_,hx⟩:=List.mem_flatMap.1 hu;simp only[SegM.cells,List.mem_cons,List.not_mem_nil,or_false]at hx
 rcases hx with rfl|rfl|rfl<;>rfl):p:=h
theorem c141 (h:p:=by
 repeat(first|with_reducible exact HRd.out|with_reducible refine RM.drew ?_|with_reducible refine RM.setK ?_ ?_ _)
 all_goals exact Hg1'.out):p:=h
theorem c142 (h:p:=by
 have h0:=Blk.new w p.flat 42
 repeat(first|exact h0|refine Blk.alloc ?_ _)):p:=h
theorem c143 (h:p:=by
 have h1:=List.all_eq_true.1 hall i (List.mem_range.2 hi);rw[ho]at h1;simp only[Bool.and_eq_true,hgd,decide_eq_true_eq]at h1;exact h1.2):p:=h
theorem c144 (h:p:=by
 simp[results,Tryz.results37,go_sem,d0,d1,d2,d3,d4,d5,d6,d7,d8,d9]):p:=h
theorem c145 (h:p:=by
 simp[results,Tryz.results32,go_sem,d0,d1,d2,d3,d4,d5,d6,d7,d8,d9,e0,e1,e2,e3,e4,e5,e6,e7,e8,e9,e10,e11,e12,e13,e14]):p:=h
theorem c146 (h:p:=by
 have zz71:=PLift.up @c438;exact c437):p:=h
theorem c147 (h:p:=by
 have zz142:=PLift.up @c680;exact c679):p:=h
theorem c148 (h:p:=by
 have hpc:=hP6;unfold PlanM.flat at hpc;obtain⟨g0,g1,g2,g3,g4,g5,g6,g7,g8,g9,g10,g11,g12,g13,g14⟩:=hpc.c15;clear hpc;obtain⟨n0,n1,n2,n3,n4,n5⟩:=hM0.c6;have hfit:=fits_prog6 p ⟨u0,u1,u2,u3,u4,u5⟩ ⟨m0,m1,m2,m3,m4,m5⟩ w9 (fun k hk=>by have h1:=Hpf.out.g k hk;have h2:=Hu.out.g6 k hk;exact⟨h2.1,h2.2,h1.2,hnp k hk⟩)
 rw[hfi]at hfit;unfold PlanM.val V6.val at hfit;dsimp only at hfit;have HD6:=hid hD6;have HP6:=hid hP6;have HT6:=hid hT6;have HL6:=hid hL6;have HM0:=hid hM0;have Hz9:=hid hz9;have Hka:=hid hka;have HMB:=hid hMB;have Hnp:=hid hnp;have Hf1:=hid hf1;have Hfit:=hid hfit;clear hD6 hP6 hT6 hL6 hM0 hz9 hka hMB hnp hf1 hfit
 go_wp2_with fail
 refine Hfit.out.mono ?_;rintro e w10 ⟨rfl,hk10⟩;have hD7:=HD6.out.below hk10;have hP7:=HP6.out.keep hk10 HP6.out.lt;have hT7:=own_of_keep HT6.out hk10 fun b hb=>own_ne HT6.out b hb;have hL7:TermOwn w10 (fun b=>K b∨(B≤b∧b<B4)) (.slice LA all.length lc) all:=⟨own_of_keep HL6.out.1 hk10 fun b hb=>own_ne HL6.out.1 b hb,HL6.out.2⟩;clear g0 g1 g2 g3 g4 g5 g6 g7 g8 g9 g10 g11 g12 g13 g14 n0 n1 n2 n3 n4 n5 c0 c1 c2 c3 c4 c5 c6 c7 c8 c9 HD6 HP6 HT6 HL6 Hfit y0 y1 y2 y3 y4 y5 y6 y7 y8 z0 z1 z2 z3 z4 z5 z6 z7 z8 f
 have hc1:=(hD7).b1;unfold WrM.vals at hc1;dsimp only at hc1;obtain⟨y0,y1,y2,y3,y4,y5,y6,y7,y8⟩:=hc1.c9;have hz:=(hD7).b3;unfold zer9 at hz;obtain⟨z0,z1,z2,z3,z4,z5,z6,z7,z8⟩:=hz.c9;have f:=hz.free;clear hc1 hz;have HKG:=hid (show∀b,K b→(fun b=>(fun b=>K b∨(B≤b∧b<B4)) b∨(Value.slice LA all.length lc).ownBlock=some b) b from fun b hb=>Or.inl (Or.inl hb))
 have HD7:=hid hD7;have HP7:=hid hP7;have HT7:=hid hT7;have HL7:=hid hL7;have Hk10:=hid hk10;clear hD7 hP7 hT7 hL7 hk10
 go_wp2_with fail
 obtain⟨hE,hrr,hkk,hk0⟩:=(HD7.out).out;unfold WrM.vals at hE;dsimp only at hE hrr hkk hk0;clear y0 y1 y2 y3 y4 y5 y6 y7 y8 z0 z1 z2 z3 z4 z5 z6 z7 z8 f;generalize (((((((((w10.setCell ⟨B+1+1+1,0,none⟩ (.slice (some ⟨b0,o0,none⟩) segs.length cp)).setCell ⟨B+1+1+1,1,none⟩ (I wt)).setCell ⟨B+1+1+1,2,none⟩ (J wv)).setCell ⟨B+1+1+1,3,none⟩ (I u0)).setCell ⟨B+1+1+1,4,none⟩ (I u1)).setCell ⟨B+1+1+1,5,none⟩ (I u2)).setCell ⟨B+1+1+1,6,none⟩ (I u3)).setCell ⟨B+1+1+1,7,none⟩ (I u4)).setCell ⟨B+1+1+1,8,none⟩ (I u5))=WZ at*
 obtain⟨d0,d1,d2,d3,d4,d5,d6,d7,d8⟩:=hE.c9;refine bodyPost_ret (v:= .tuple #[.agg #[.slice (some ⟨b0,o0,none⟩) segs.length cp,I wt,J wv,I u0,I u1,I u2,I u3,I u4,I u5],I 3]) ?_ rfl ?_
 ·exact c73
 ·exact c100):p:=h
theorem c149 (h:p:=by
 have zz71:=PLift.up @c439;exact c437):p:=h
theorem c150 (h:p:=by
 rw[ho2];clear ho2;have hc1:=(hD6).b1;unfold WrM.vals at hc1;dsimp only at hc1;obtain⟨y0,y1,y2,y3,y4,y5,y6,y7,y8⟩:=hc1.c9;have hz:=(hD6).b3;unfold zer9 at hz;obtain⟨z0,z1,z2,z3,z4,z5,z6,z7,z8⟩:=hz.c9;have f:=hz.free;clear hc1 hz;have zz142:=PLift.up @c681;exact c679):p:=h
theorem c151 (h:p:=by
 have hkD5:=hka;have HkD5:=hid hkD5;clear hkD5;have zz133:=PLift.up @c650;exact c649):p:=h
theorem c152 (h:p:=by
 have zz73:=PLift.up @c445;exact c443):p:=h
theorem c153 (h:p:=by
 have hc1:=(hD1).b1;unfold WrM.vals at hc1;dsimp only at hc1;obtain⟨y0,y1,y2,y3,y4,y5,y6,y7,y8⟩:=hc1.c9;have hz:=(hD1).b3;unfold zer9 at hz;obtain⟨z0,z1,z2,z3,z4,z5,z6,z7,z8⟩:=hz.c9;have f:=hz.free;clear hc1 hz;have HKG:=hid (show∀b,K b→(fun b=>K b∨(B≤b∧b<B4)) b from fun b hb=>Or.inl hb)
 have HD1:=hid hD1;have HP1:=hid hP1;have HT1:=hid hT1;clear hD1 hP1 hT1
 go_wp2_with fail
 obtain⟨hE,hrr,hkk,hk0⟩:=(HD1.out).out;unfold WrM.vals at hE;dsimp only at hE hrr hkk hk0;clear y0 y1 y2 y3 y4 y5 y6 y7 y8 z0 z1 z2 z3 z4 z5 z6 z7 z8 f;generalize (((((((((w4.setCell ⟨B+1+1+1,0,none⟩ (.slice (some ⟨b0,o0,none⟩) segs.length cp)).setCell ⟨B+1+1+1,1,none⟩ (I wt)).setCell ⟨B+1+1+1,2,none⟩ (J wv)).setCell ⟨B+1+1+1,3,none⟩ (I u0)).setCell ⟨B+1+1+1,4,none⟩ (I u1)).setCell ⟨B+1+1+1,5,none⟩ (I u2)).setCell ⟨B+1+1+1,6,none⟩ (I u3)).setCell ⟨B+1+1+1,7,none⟩ (I u4)).setCell ⟨B+1+1+1,8,none⟩ (I u5))=WZ at*
 obtain⟨d0,d1,d2,d3,d4,d5,d6,d7,d8⟩:=hE.c9;refine bodyPost_ret (v:= .tuple #[.agg #[.slice (some ⟨b0,o0,none⟩) segs.length cp,I wt,J wv,I u0,I u1,I u2,I u3,I u4,I u5],I 6]) ?_ rfl ?_
 ·exact c73
 ·exact c100):p:=h
theorem c154 (h:p:=by
 have zz155:=PLift.up @c740;exact c739):p:=h
theorem c155 (h:p:=by
 have zz168:=PLift.up @c782;exact c781):p:=h
theorem c156 (h:p:=by
 go_loopw[19,84] (fun fv iv wx=>∃(i:Nat) (fr9:Int) (more:V6),fv=I fr9∧iv=I (i:Int)∧i≤all.length∧(0≤fr9∧fr9≤(i:Int))∧more.in (20000*(i:Int))∧Hid (needsP p (all.drop i) fr9 more=(fr,⟨m0,m1,m2,m3,m4,m5⟩))∧Hid (Blk wx MB more.list6)∧Hid (Keeps (fun b=>b<MB) w5 wx)∧MB<wx.heap.size) (fun _ iv _=>all.length-(intOf iv).toNat)
 case atStart=>exact⟨0,0,zero6,rfl,rfl,Nat.zero_le _,⟨by decide,by decide⟩,by unfold zero6 V6.in;decide,Hnd,HM0,hid (Keeps.refl _ _),hMl⟩
 case round=>
  clear HM0 hMl;obtain⟨i,fr9,more,rfl,rfl,hi,⟨hf0,hf1⟩,hmi,HN,HM,HK,hszw⟩:=hrel
  by_cases hlt:i<all.length
  ·exact c1
  ·obtain rfl:i=all.length:=by omega
   have zz92:=PLift.up @c502;exact c501):p:=h
theorem c157 (h:p:=by
 go_loopw[19,84] (fun fv iv wx=>∃(i:Nat) (fr9:Int) (more:V6),fv=I fr9∧iv=I (i:Int)∧i≤all.length∧(0≤fr9∧fr9≤(i:Int))∧more.in (20000*(i:Int))∧Hid (needsP p (all.drop i) fr9 more=(fr,⟨m0,m1,m2,m3,m4,m5⟩))∧Hid (Blk wx MB more.list6)∧Hid (Keeps (fun b=>b<MB) w5 wx)∧MB<wx.heap.size) (fun _ iv _=>all.length-(intOf iv).toNat)
 case atStart=>exact⟨0,0,zero6,rfl,rfl,Nat.zero_le _,⟨by decide,by decide⟩,by unfold zero6 V6.in;decide,Hnd,HM0,hid (Keeps.refl _ _),hMl⟩
 case round=>
  clear HM0 hMl;obtain⟨i,fr9,more,rfl,rfl,hi,⟨hf0,hf1⟩,hmi,HN,HM,HK,hszw⟩:=hrel
  by_cases hlt:i<all.length
  ·exact c1
  ·obtain rfl:i=all.length:=by omega
   have zz92:=PLift.up @c503;exact c501):p:=h
theorem c158 (h:p:=by
 have zz82:=PLift.up @c472;exact c471):p:=h
theorem c159 (h:p:=by
 have HTK:=hid (fun W=>take_yes p u k hk z W HP.out (by omega) h0 hfit)
 have hg0:0≤p.bK k+u.uK k∧p.bK k+u.uK k≤131072:=by
  have h1:=HP.out.b k;have h2:=HP.out.s k
  omega
 obtain⟨nu,hnu⟩:∃nu,nu=u.up k z:=⟨_,rfl⟩;rw[←hnu]at HTK;generalize hA:p.bK k+u.uK k=ad at*;have HTB:=hid (show∀wa,Keeps (· <w1.heap.size) w1 wa→Z 43 #[p.val,u.val,I (k:Int),I z] wa fun e w'=>e= .returned (.tuple #[I ad,nu.val,I 0])∧Hid (Keeps (· <w1.heap.size) w1 w')∧
   ((e0_15 w' B (I p.base.a0) (I p.base.a1) (I p.base.a2) (I p.base.a3) (I p.base.a4) (I p.base.a5) (I p.size.a0) (I p.size.a1) (I p.size.a2) (I p.size.a3) (I p.size.a4) (I p.size.a5) (I p.cells) (I p.slots) (I p.live) (d0_6 w' (B+1) (I u.a0) (I u.a1) (I u.a2) (I u.a3) (I u.a4) (I u.a5)))∧¬w'.heap.size=B∧¬w'.heap.size=B+1)from fun wa h1=>by
  refine(HTK.out wa).mono ?_;rintro e w' ⟨rfl,h2⟩;exact⟨rfl,h1.trans (h2.mono fun b hb=>by have:=h1.size;omega),HSS.out _ _ h1 h2⟩)
 have HTA:=hid (show∀wa,Blk wa w1.heap.size [I 0,I 0,I 0,I 0,I 0,I 0]→Keeps (· <w1.heap.size) w1 wa→Z 43 #[p.val,u.val,I (k:Int),I z] wa fun e w'=>e= .returned (.tuple #[I ad,nu.val,I 0])∧Hid (Keeps (· <w1.heap.size) w1 w')∧Hid (Blk w' w1.heap.size [I 0,I 0,I 0,I 0,I 0,I 0])∧
   (e0_6 w' w1.heap.size (I 0) (I 0) (I 0) (I 0) (I 0) (I 0) (w'.frozen? ⟨w1.heap.size,0,none⟩=false∧w'.frozen? ⟨w1.heap.size,1,none⟩=false∧w'.frozen? ⟨w1.heap.size,2,none⟩=false∧w'.frozen? ⟨w1.heap.size,3,none⟩=false∧w'.frozen? ⟨w1.heap.size,4,none⟩=false∧w'.frozen? ⟨w1.heap.size,5,none⟩=false))∧((e0_15 w' B (I p.base.a0) (I p.base.a1) (I p.base.a2) (I p.base.a3) (I p.base.a4) (I p.base.a5) (I p.size.a0) (I p.size.a1) (I p.size.a2) (I p.size.a3) (I p.size.a4) (I p.size.a5) (I p.cells) (I p.slots) (I p.live) (d0_6 w' (B+1) (I u.a0) (I u.a1) (I u.a2) (I u.a3) (I u.a4) (I u.a5)))∧¬w'.heap.size=B∧¬w'.heap.size=B+1)from fun wa h0 h1=>by
  refine(HTK.out wa).mono ?_;rintro e w' ⟨rfl,h2⟩;exact⟨rfl,h1.trans (h2.mono fun b hb=>by have:=h1.size;omega),h0.keep h2 h0.lt,HZZ.out _ _ _ h0 h2,HSS.out _ _ h1 h2⟩)
 unfold PlanM.val V6.val at HTA HTB;have HTR:=hid (And.intro ht0' ht1);have HV:=hid hv;clear hZ hk h0 hfit hv ht0' ht1 HTK;have HNA:=hid (And.intro hnu hA);clear hnu hA
 go_cut[15,16,17]from 29 to 38 (fun a b e wx=>∃B3,a=I ad∧b= .pointer (some ⟨B3,0,none⟩)∧e=I 0∧w1.heap.size≤B3∧Blk wx B3 nu.list∧Keeps (· <w1.heap.size) w1 wx)
 case first=>
  exact c19
 case rest=>
  have zz77:=PLift.up @c456;exact c455):p:=h
theorem c160 (h:p:=by
 have HTK:=hid (fun W=>take_no p u k hk z W HP.out (by omega) (by omega) h0 hu hfit)
 obtain⟨nu,hnu⟩:∃nu,nu=zeros6v:=⟨_,rfl⟩;change Hid (∀W,Z _ _ W fun e w'=>e= .returned (.tuple #[I 0,zeros6v.val,I 3])∧_)at HTK;rw[←hnu]at HTK;obtain⟨ad,hA⟩:∃ad:Int,ad=0:=⟨_,rfl⟩;rw[←hA]at HTK;have HTB:=hid (show∀wa,Keeps (· <w1.heap.size) w1 wa→Z 43 #[p.val,u.val,I (k:Int),I z] wa fun e w'=>e= .returned (.tuple #[I ad,nu.val,I 3])∧Hid (Keeps (· <w1.heap.size) w1 w')∧
   ((e0_15 w' B (I p.base.a0) (I p.base.a1) (I p.base.a2) (I p.base.a3) (I p.base.a4) (I p.base.a5) (I p.size.a0) (I p.size.a1) (I p.size.a2) (I p.size.a3) (I p.size.a4) (I p.size.a5) (I p.cells) (I p.slots) (I p.live) (d0_6 w' (B+1) (I u.a0) (I u.a1) (I u.a2) (I u.a3) (I u.a4) (I u.a5)))∧¬w'.heap.size=B∧¬w'.heap.size=B+1)from fun wa h1=>by
  refine(HTK.out wa).mono ?_;rintro e w' ⟨rfl,h2⟩;exact⟨rfl,h1.trans (h2.mono fun b hb=>by have:=h1.size;omega),HSS.out _ _ h1 h2⟩)
 have HTA:=hid (show∀wa,Blk wa w1.heap.size [I 0,I 0,I 0,I 0,I 0,I 0]→Keeps (· <w1.heap.size) w1 wa→Z 43 #[p.val,u.val,I (k:Int),I z] wa fun e w'=>e= .returned (.tuple #[I ad,nu.val,I 3])∧Hid (Keeps (· <w1.heap.size) w1 w')∧Hid (Blk w' w1.heap.size [I 0,I 0,I 0,I 0,I 0,I 0])∧
   (e0_6 w' w1.heap.size (I 0) (I 0) (I 0) (I 0) (I 0) (I 0) (w'.frozen? ⟨w1.heap.size,0,none⟩=false∧w'.frozen? ⟨w1.heap.size,1,none⟩=false∧w'.frozen? ⟨w1.heap.size,2,none⟩=false∧w'.frozen? ⟨w1.heap.size,3,none⟩=false∧w'.frozen? ⟨w1.heap.size,4,none⟩=false∧w'.frozen? ⟨w1.heap.size,5,none⟩=false))∧((e0_15 w' B (I p.base.a0) (I p.base.a1) (I p.base.a2) (I p.base.a3) (I p.base.a4) (I p.base.a5) (I p.size.a0) (I p.size.a1) (I p.size.a2) (I p.size.a3) (I p.size.a4) (I p.size.a5) (I p.cells) (I p.slots) (I p.live) (d0_6 w' (B+1) (I u.a0) (I u.a1) (I u.a2) (I u.a3) (I u.a4) (I u.a5)))∧¬w'.heap.size=B∧¬w'.heap.size=B+1)from fun wa h0 h1=>by
  refine(HTK.out wa).mono ?_;rintro e w' ⟨rfl,h2⟩;exact⟨rfl,h1.trans (h2.mono fun b hb=>by have:=h1.size;omega),h0.keep h2 h0.lt,HZZ.out _ _ _ h0 h2,HSS.out _ _ h1 h2⟩)
 unfold PlanM.val V6.val at HTA HTB;have HTR:=hid (And.intro ht0' ht1);have HV:=hid hv;clear hZ hk h0 hu hfit hv ht0' ht1 HTK;have HNA:=hid (And.intro hnu hA);clear hnu hA
 go_cut[15,16,17]from 29 to 38 (fun a b e wx=>∃B3,a=I ad∧b= .pointer (some ⟨B3,0,none⟩)∧e=I 3∧w1.heap.size≤B3∧Blk wx B3 nu.list∧Keeps (· <w1.heap.size) w1 wx)
 case first=>
  exact c19
 case rest=>
  have zz77:=PLift.up @c457;exact c455):p:=h
theorem c161 (h:p:=by
 have zz132:=PLift.up @c647;exact c646):p:=h
theorem c162 (h:p:=by
 clear hc9;have hge:docs≤(ld:Int):=by have:=Hcdo.out;rw[this]at hx;exact hx
 have hgb:decide ((ld:Int)≥docs)=true:=decide_eq_true hge;have hgb2:decide (docs≤(ld:Int))=true:=decide_eq_true hge;clear hx;have hc9:=(hS3).b0;obtain⟨y0,y1,y2,y3,y4,y5,y6,y7,y8,y9⟩:=hc9.c10;clear hc9;have hz9:=(hS3).b4;unfold st0 at hz9;obtain⟨z0,z1,z2,z3,z4,z5,z6,z7,z8,z9⟩:=hz9.c10;have f:=hz9.free;clear hz9;have HS3:=hid hS3;have HLB:=hid hLB
 have Hto4:=hid hto4;have Hlbt:=hid hlbt;clear hS3 hLB hto4 hlbt
 go_upto_region 9 with fail
 go_region
 iterate 2 (first|go_values|go_skip|go_guarded|go_step|go_upon|go_back)
 go_step
 have hE:=(blk_out10 (HS3.out).b4 rfl (.slice A cs.length cp) (.slice (some ⟨b0,o0,none⟩) segs.length cp2) (I wt) (J wv) (I u0) (I u1) (I u2) (I u3) (I u4) (I u5)).drew;have hkk:=(keeps_out10 (b:=B+1+1+1+1) (HS3.out).kp (fun h=>by have h:B+1+1+1+1<B:=h;omega) (.slice A cs.length cp) (.slice (some ⟨b0,o0,none⟩) segs.length cp2) (I wt) (J wv) (I u0) (I u1) (I u2) (I u3) (I u4) (I u5)).drew
 have hkn:=(keeps_out10 (K:=(· ≠B+1+1+1+1)) (b:=B+1+1+1+1) (Keeps.refl _ w3) (fun h=>h rfl) (.slice A cs.length cp) (.slice (some ⟨b0,o0,none⟩) segs.length cp2) (I wt) (J wv) (I u0) (I u1) (I u2) (I u3) (I u4) (I u5)).drew;clear y0 y1 y2 y3 y4 y5 y6 y7 y8 y9 z0 z1 z2 z3 z4 z5 z6 z7 z8 z9 f;generalize ((((((((((w3.setCell ⟨B+1+1+1+1,0,none⟩ (.slice A cs.length cp)).setCell ⟨B+1+1+1+1,1,none⟩ (.slice (some ⟨b0,o0,none⟩) segs.length cp2)).setCell ⟨B+1+1+1+1,2,none⟩ (I wt)).setCell ⟨B+1+1+1+1,3,none⟩ (J wv)).setCell ⟨B+1+1+1+1,4,none⟩ (I u0)).setCell ⟨B+1+1+1+1,5,none⟩ (I u1)).setCell ⟨B+1+1+1+1,6,none⟩ (I u2)).setCell ⟨B+1+1+1+1,7,none⟩ (I u3)).setCell ⟨B+1+1+1+1,8,none⟩ (I u4)).setCell ⟨B+1+1+1+1,9,none⟩ (I u5)).drew=WZ at*
 obtain⟨d0,d1,d2,d3,d4,d5,d6,d7,d8,d9⟩:=hE.c10;refine bodyPost_ret (v:= .tuple #[I 5,.agg #[.slice A cs.length cp,.slice (some ⟨b0,o0,none⟩) segs.length cp2,I wt,J wv,I u0,I u1,I u2,I u3,I u4,I u5]]) ?_ rfl ?_
 ·exact c88
 ·exact c92):p:=h
theorem c163 (h:p:=by
 clear hc9
 (try dsimp only at hqa hwd)
 have Hqa:=hid hqa;clear hqa;have zz72:=PLift.up @c442;exact c440):p:=h
theorem c164 (h:p:=by
 have hrt:=fun W=>right_call p P hP hl (t:Int) W (by omega)
 have hbh:=fun W=>ref9_behind p P hP hl (t:Int) W (by omega) (by rw[hnx])
 have hwf:=hl.wf hP;rw[hnx]at hrt hbh;dsimp only at hrt hbh;obtain⟨u0,u1,u2,u3,u4,u5⟩:=u;have Hrt:=hid hrt;have Hbh:=hid hbh;have Hsl:=hid hsl;have Hb:=hid hb;have Hnx:=hid hnx;have Hl:=hid hl;have HP:=hid hP;have Hwf:=hid hwf;clear hrt hbh hsl hb hnx hl hP hwf;unfold PlanM.val V6.val at*;dsimp only at*;refine calls_hide fun R' hR'=>?_
 go_enter Tryz.func95,Tryz.ntmps95
 go_wp2_with fail
 refine calls_gen (fun W=>Blk W w.heap.size p.flat∧Blk W (w.heap.size+1) [I u0,I u1,I u2,I u3,I u4,I u5]∧Blk W (w.heap.size+1+1) [I 0,I 0,I 0,I 0,I 0,I 0]∧Keeps (· <w.heap.size) w W) ⟨?_,?_,?_,?_⟩ (fun W0 HW=>?_)
 ·exact((Blk.new w p.flat 42).alloc _).alloc _
 ·exact bA
 ·exact bA
 ·exact kA
 obtain⟨hA0,hA1,hA2,hkA⟩:=HW;generalize hBB:w.heap.size=B at*;refine(Hrt.out W0).mono ?_;rintro e w1 ⟨rfl,hk1⟩;have hB0:=hA0.keep hk1 hA0.lt;have hB1:=hA1.keep hk1 hA1.lt;have hB2:=hA2.keep hk1 hA2.lt;have hkB:Keeps (· <B) w w1:=hkA.trans (hk1.mono fun b hb=>by have:=hkA.size;omega)
 clear hA0 hA1 hA2 hkA hk1 Hrt;have HB0:=hid hB0;have HB1:=hid hB1;have HB2:=hid hB2;have HkB:=hid hkB;have HBB:=hid hBB;clear hB0 hB1 hB2 hkB hBB
 go_wp2_with fail
 refine(ref01_copy cs A cp w1 K (fun b hb=>by have h9:b<B:=Hb.out b hb;have:=HB2.out.lt;omega) (Hsl.out.keep HkB.out (fun b hb=>Hb.out b hb)) hn0 hn).mono ?_
 rintro e w2 ⟨rfl,hN2,hk2⟩;have hC0:=HB0.out.keep hk2 HB0.out.lt;have hC1:=HB1.out.keep hk2 HB1.out.lt;have hC2:=HB2.out.keep hk2 HB2.out.lt;have hkC:Keeps (· <B) w w2:=HkB.out.trans (hk2.mono fun b hb=>by have:=HB2.out.lt;omega)
 have hBN:B+1+1<w1.heap.size:=HB2.out.lt;generalize hNB:w1.heap.size=NB at*;clear HB0 HB1 HB2 HkB hk2;have hpc:=hC0;unfold PlanM.flat at hpc;obtain⟨g0,g1,g2,g3,g4,g5,g6,g7,g8,g9,g10,g11,g12,g13,g14⟩:=hpc.c15;clear hpc;have HC0:=hid hC0;have HC1:=hid hC1;have HC2:=hid hC2;have HkC:=hid hkC;have HN2:=hid hN2;clear hC0 hC1 hC2 hkC hN2
 go_wp2_with fail
 refine(Hbh.out w2).mono ?_;rintro e w3 ⟨rfl,hk3⟩;have hD0:=HC0.out.keep hk3 HC0.out.lt;have hD1:=HC1.out.keep hk3 HC1.out.lt;have hD2:=HC2.out.keep hk3 HC2.out.lt;have hN3:=HN2.out.keep hk3 HN2.out.lt;have hkD:Keeps (· <B) w w3:=HkC.out.trans (hk3.mono fun b hb=>by have:=HC2.out.lt;omega)
 clear g0 g1 g2 g3 g4 g5 g6 g7 g8 g9 g10 g11 g12 g13 g14 HC0 HC1 HC2 HkC HN2 hk3 Hbh;exact zz7.down):p:=h
theorem c165 (h:p:=by
 have hl0:(cs.map (Value.int .u32)).length=cs.length:=List.length_map ..;have hw2:IntKind.i64.wrap ((t:Int)+1)=((t+1:Nat):Int):=by rw[IntWalk.i64_in _ (by omega)];omega
 have hin:((t+1:Nat):Int)<(cs.length:Int):=by omega
 have hin0:¬((t+1:Nat):Int)<0:=by omega
 have hd0:decide (((t+1:Nat):Int)<0)=false:=decide_eq_false (by omega)
 have hd1:decide ((cs.length:Int)≤((t+1:Nat):Int))=false:=decide_eq_false (by omega)
 obtain⟨old,hold⟩:∃x,(cs.map (Value.int .u32))[t+1]? =some x:=⟨_,List.getElem?_eq_getElem (by rw[hl0];omega)⟩
 have hcell:=(hN3.cell (t+1)).trans hold;have hfr:=hN3.free (t+1);have hst:=hN3.set (t+1) (J wd);rw[←List.map_set]at hst;have hE1:=hD1.set_ne (a:=⟨NB,t+1,none⟩) (J wd) (by show B+1≠NB;omega)
 have hE2:=hD2.set_ne (a:=⟨NB,t+1,none⟩) (J wd) (by show B+1+1≠NB;omega)
 have hkE:=hkD.setCell (p:=⟨NB,t+1,none⟩) (fun h=>by have h:NB<B:=h;omega) (J wd)
 clear hold hD0 hD1 hD2 hN3 hkD hl0;have Hst:=hid hst;have HE1:=hid hE1;have HE2:=hid hE2;have HkE:=hid hkE;clear hst hE1 hE2 hkE
 go_upto_region 14 with fail
 generalize w3.setCell ⟨NB,t+1,none⟩ (J wd)=w9 at*;clear hcell hfr hin hin0 hd0 hd1;have hc1:=HE1.out;obtain⟨y0,y1,y2,y3,y4,y5⟩:=hc1.c6;have hc2:=HE2.out;obtain⟨z0,z1,z2,z3,z4,z5⟩:=hc2.c6;have f:=hc2.free;clear hc1 hc2
 go_region
 iterate 2 (first|go_values|go_skip|go_guarded|go_step|go_upon|go_back)
 go_step
 have hE:=(HE2.out.set6 (I u0) (I u1) (I u2) (I u3) (I u4) (I u5) rfl).drew;have hkk:=(HkE.out.set6 (b:=B+1+1) (I u0) (I u1) (I u2) (I u3) (I u4) (I u5) (by omega)).drew
 have hNN:=(Hst.out.set6_ne (b:=B+1+1) (I u0) (I u1) (I u2) (I u3) (I u4) (I u5) (by omega)).drew
 generalize ((((((w9.setCell ⟨B+1+1,0,none⟩ (I u0)).setCell ⟨B+1+1,1,none⟩ (I u1)).setCell ⟨B+1+1,2,none⟩ (I u2)).setCell ⟨B+1+1,3,none⟩ (I u3)).setCell ⟨B+1+1,4,none⟩ (I u4)).setCell ⟨B+1+1,5,none⟩ (I u5)).drew=WZ at*;obtain⟨d0,d1,d2,d3,d4,d5⟩:=hE.c6;refine bodyPost_ret (v:= .tuple #[.slice (some ⟨NB,0,none⟩) cs.length cs.length,I ((t:Int)+1),.agg #[I u0,I u1,I u2,I u3,I u4,I u5],I 0]) ?_ rfl ?_
 ·simp[results,Tryz.results95,go_sem,d0,d1,d2,d3,d4,d5]
 ·exact hR'.out _ _ ⟨NB,rfl,by omega,hNN,hkk⟩):p:=h
theorem c166 (h:p:=by
 have hkI:(0:Int)≤(k:Int):=Int.natCast_nonneg k;have hkd:decide ((0:Int)≤(k:Int))=true:=decide_eq_true hkI;have hkd2:decide ((k:Int)≥0)=true:=decide_eq_true hkI;have hpc:=hD0;unfold PlanM.flat at hpc;obtain⟨g0,g1,g2,g3,g4,g5,g6,g7,g8,g9,g10,g11,g12,g13,g14⟩:=hpc.c15;obtain⟨y0,y1,y2,y3,y4,y5⟩:=hD1.c6;clear hpc;have hl0:=hD0.lt;have hl1:=hD1.lt
 have HSS:=hid (show∀wa w':World,Keeps (· <w3.heap.size) w3 wa→Keeps (· <wa.heap.size) wa w'→((e0_15 w' B (I p.base.a0) (I p.base.a1) (I p.base.a2) (I p.base.a3) (I p.base.a4) (I p.base.a5) (I p.size.a0) (I p.size.a1) (I p.size.a2) (I p.size.a3) (I p.size.a4) (I p.size.a5) (I p.cells) (I p.slots) (I p.live) (d0_6 w' (B+1) (I u0) (I u1) (I u2) (I u3) (I u4) (I u5)))∧¬w'.heap.size=B∧¬w'.heap.size=B+1)from by
  intro wa w' k1 k2;have k:Keeps (· <w3.heap.size) w3 w':=k1.trans (k2.mono fun b hb=>by have:=k1.size;omega)
  have e0:=fun i=>World.cell?_of_block (a:=⟨B,i,none⟩) (k.block B hl0);have e1:=fun i=>World.cell?_of_block (a:=⟨B+1,i,none⟩) (k.block (B+1) hl1);exact⟨⟨(e0 0).trans g0,(e0 1).trans g1,(e0 2).trans g2,(e0 3).trans g3,(e0 4).trans g4,(e0 5).trans g5,(e0 6).trans g6,(e0 7).trans g7,(e0 8).trans g8,(e0 9).trans g9,(e0 10).trans g10,(e0 11).trans g11,(e0 12).trans g12,(e0 13).trans g13,(e0 14).trans g14,(e1 0).trans y0,(e1 1).trans y1,(e1 2).trans y2,(e1 3).trans y3,(e1 4).trans y4,(e1 5).trans y5⟩,by have:=k.size;omega,by have:=k.size;omega⟩)
 have zz158:=PLift.up @c749;exact c748):p:=h
theorem c167 (h:p:=by
 have zz165:=PLift.up @c772;exact c771):p:=h
theorem c168 (h:p:=by
 have hlt:decide (p.size.a5<p.live+2)=true:=decide_eq_true hfu;have HB1:=hid hB1;have HB2:=hid hB2;have Hkw:=hid hkw;clear hB1 hB2 hkw
 go_upto_region 5 with fail
 have zz140:=PLift.up @c672;exact c671):p:=h
theorem c169 (h:p:=by
 have hlt:decide (p.size.a5<p.live+2)=false:=decide_eq_false (by omega)
 rw[Hcn0.out]at g12 pb1 pb2;obtain⟨a5,ha5⟩:∃a:Nat,p.base.a5=(a:Int):=⟨p.base.a5.toNat,by omega⟩
 obtain⟨lv,hlv⟩:∃a:Nat,p.live=(a:Int):=⟨p.live.toNat,by omega⟩
 have hmk:=fun w=>run_make_row' (P:=Tryz.prog) 47 32 (J 0) 4 Tryz.underlying47 Tryz.infoU rfl .i64 .i64 n (by omega) (by omega) w
 have hmc:madeCells #[J 0] n=(List.replicate n (J 0)).toArray:=by
  apply Array.ext';rw[toList_madeCells_one]
 rw[hmc]at hmk;clear hmc;have hal:a5+lv+1<n:=by omega
 have hal2:2<a5:=by omega
 have hnb:n≤65536:=by omega
 rw[ha5]at g5;rw[hlv]at g14 hw1 hlt hfu;have Ha5:=hid ha5;have Hlv:=hid hlv;clear ha5 hlv pb0 pb1 pb2 pb3 pb4;have HB1:=hid hB1;have HB2:=hid hB2;have Hkw:=hid hkw;have HP:=hid hP;have Hn:=hid hn;clear hB1 hB2 hkw hP hn
 go_upto_region 7 with fail
 refine wp_gen (fun W3=>Blk W3 (B+1) st0∧Blk W3 (B+1+1) zp15∧Blk W3 PB p.flat∧Blk W3 w2.heap.size (List.replicate n (J 0))∧Blk W3 (w2.heap.size+1) [.slice (some ⟨w2.heap.size,0,none⟩) n n,.slice none 0 0,I 0,J 0,I 0,I 0,I 0,I 0,I 0,I 0]∧Keeps (· <B) w W3) ⟨(HB1.out.alloc _).alloc _,(HB2.out.alloc _).alloc _,(HP.out.alloc _).alloc _,(Blk.new w2 (List.replicate n (J 0)) _).alloc _,?_,(Hkw.out.alloc (fun b hb=>by have:=HB1.out.lt;omega) _).alloc (fun b hb=>by have:=HB1.out.lt;simp;omega) _⟩ (fun w3 HW=>?_)
 ·exact Blk.new' _ [.slice (some ⟨w2.heap.size,0,none⟩) n n,.slice none 0 0,I 0,J 0,I 0,I 0,I 0,I 0,I 0,I 0] _ (by simp)
 have hNl:PB<w2.heap.size:=HP.out.lt;clear HB1 HB2 Hkw HP g0 g1 g2 g3 g4 g5 g6 g7 g8 g9 g10 g11 g12 g13 g14;obtain⟨hB1,hB2,hP,hNB,hSB,hkw⟩:=HW;generalize w2.heap.size=NB at*;have hpc:=hP;unfold PlanM.flat at hpc;obtain⟨g0,g1,g2,g3,g4,g5,g6,g7,g8,g9,g10,g11,g12,g13,g14⟩:=hpc.c15;clear hpc;rw[Ha5.out]at g5;rw[Hlv.out]at g14;have hsc:=hSB;obtain⟨y0,y1,y2,y3,y4,y5,y6,y7,y8,y9⟩:=hsc.c10
 have f1:=hSB.free 1;have hlS:NB+1<w3.heap.size:=hSB.lt;clear hsc;have HB1:=hid hB1;have HB2:=hid hB2;have Hkw:=hid hkw;have HP:=hid hP;have HNB:=hid hNB;have HSB:=hid hSB;clear hB1 hB2 hkw hP hNB hSB
 go_upto_region 9 with fail
 refine wp_gen (fun W3=>Blk W3 (B+1) st0∧Blk W3 (B+1+1) zp15∧Blk W3 PB p.flat∧Blk W3 NB (List.replicate n (J 0))∧Blk W3 (NB+1) [.slice (some ⟨NB,0,none⟩) n n,.slice (some ⟨w3.heap.size,0,none⟩) 1 1,I 0,J 0,I 0,I 0,I 0,I 0,I 0,I 0]∧Blk W3 w3.heap.size [I (a5:Int),I 0,.bool false]∧Keeps (· <B) w W3)
  ⟨(HB1.out.set_ne (a:=⟨NB+1,1,none⟩) _ (by show B+1≠NB+1;omega)).alloc _,(HB2.out.set_ne (a:=⟨NB+1,1,none⟩) _ (by show B+1+1≠NB+1;omega)).alloc _,(HP.out.set_ne (a:=⟨NB+1,1,none⟩) _ (by show PB≠NB+1;omega)).alloc _,(HNB.out.set_ne (a:=⟨NB+1,1,none⟩) _ (by show NB≠NB+1;omega)).alloc _,(HSB.out.set 1 _).alloc _,?_,(Hkw.out.setCell (p:=⟨NB+1,1,none⟩) (fun h=>by have h:NB+1<B:=h;omega) _).alloc (fun b hb=>by simp;omega) _⟩ (fun w4 HW=>?_)
 ·exact Blk.new' _ [I (a5:Int),I 0,.bool false] _ (by simp)
 clear HB1 HB2 Hkw HP HNB HSB g0 g1 g2 g3 g4 g5 g6 g7 g8 g9 g10 g11 g12 g13 g14 y0 y1 y2 y3 y4 y5 y6 y7 y8 y9 f1;obtain⟨hB1,hB2,hP,hNB,hSB,hGB,hkw⟩:=HW;generalize w3.heap.size=GB at*;have hGl:=hGB.lt;have hGN:NB+1<GB:=hlS;have hw2:IntKind.i64.wrap ((a5:Int)+(lv:Int))=((a5+lv:Nat):Int):=by rw[IntWalk.i64_in _ (by omega)];omega
 have hw3:IntKind.i64.wrap (((a5+lv:Nat):Int)+1)=((a5+lv+1:Nat):Int):=by rw[IntWalk.i64_in _ (by omega)];omega
 have hw4:IntKind.u32.wrap (a5:Int)=(a5:Int):=IntWalk.u32_in _ (by omega)
 have hw5:IntKind.u32.wrap ((a5+lv:Nat):Int)=((a5+lv:Nat):Int):=IntWalk.u32_in _ (by omega)
 have hpc:=hP;unfold PlanM.flat at hpc;obtain⟨g0,g1,g2,g3,g4,g5,g6,g7,g8,g9,g10,g11,g12,g13,g14⟩:=hpc.c15;clear hpc;rw[Ha5.out]at g5;rw[Hlv.out]at g14;have hsc:=hSB;obtain⟨y0,y1,y2,y3,y4,y5,y6,y7,y8,y9⟩:=hsc.c10;clear hsc;have f1:=hSB.free (9);have hkn:Keeps (· ≠NB+1) w4 (w4.setCell ⟨NB+1,9,none⟩ (I ((lv:Int)+2))):=(Keeps.refl _ _).setCell (p:=⟨NB+1,9,none⟩) (fun h=>h rfl) _
 have hB1':=hB1.keep hkn (by show B+1≠NB+1;omega)
 have hB2':=hB2.keep hkn (by show B+1+1≠NB+1;omega)
 have hP':=hP.keep hkn (by show PB≠NB+1;omega)
 have hNB':=hNB.keep hkn (by show NB≠NB+1;omega)
 have hSB':Blk (w4.setCell ⟨NB+1,9,none⟩ (I ((lv:Int)+2))) (NB+1) [.slice (some ⟨NB,0,none⟩) n n,.slice (some ⟨GB,0,none⟩) 1 1,I 0,J 0,I 0,I 0,I 0,I 0,I 0,I ((lv:Int)+2)]:=by
  have h9:=hSB.set (9) (I ((lv:Int)+2));exact h9
 have hGB':=hGB.keep hkn (by show GB≠NB+1;omega)
 have hkw':=hkw.trans (hkn.mono fun b hb=>by have hb:b<B:=hb;show b≠NB+1;omega)
 clear hB1 hB2 hP hNB hSB hGB hkw hkn;have HB1:=hid hB1';have HB2:=hid hB2';have HP:=hid hP';have HNB:=hid hNB';have HSB:=hid hSB';have HGB:=hid hGB';have Hkw:=hid hkw';clear hB1' hB2' hP' hNB' hSB' hGB' hkw'
 go_upto_region 10 with fail
 generalize w4.setCell ⟨NB+1,9,none⟩ (I ((lv:Int)+2))=w5 at*;clear g0 g1 g2 g3 g4 g5 g6 g7 g8 g9 g10 g11 g12 g13 g14 y0 y1 y2 y3 y4 y5 y6 y7 y8 y9 f1;have hB1:=HB1.out;have hB2:=HB2.out;have hP:=HP.out;have hNB:=HNB.out;have hSB:=HSB.out;have hGB:=HGB.out;have hkw:=Hkw.out;clear HB1 HB2 HP HNB HSB HGB Hkw;have hpc:=hP;unfold PlanM.flat at hpc;obtain⟨g0,g1,g2,g3,g4,g5,g6,g7,g8,g9,g10,g11,g12,g13,g14⟩:=hpc.c15
 clear hpc;rw[Ha5.out]at g5;rw[Hlv.out]at g14;have hsc:=hSB;obtain⟨y0,y1,y2,y3,y4,y5,y6,y7,y8,y9⟩:=hsc.c10;clear hsc;have f1:=hNB.free (a5+lv);have hin:(a5+lv)<n:=by omega
 have hinI:(((a5+lv:Nat)):Int)<(n:Int):=by omega
 obtain⟨old,hold⟩:∃x,(List.replicate n (J 0))[a5+lv]? =some x:=⟨_,List.getElem?_eq_getElem (by simp;omega)⟩
 have hcl:=(hNB.cell (a5+lv)).trans hold;clear hold;have hkn:Keeps (· ≠NB) w5 (w5.setCell ⟨NB,a5+lv,none⟩ (J 1)):=(Keeps.refl _ _).setCell (p:=⟨NB,a5+lv,none⟩) (fun h=>h rfl) _;have hB1':=hB1.keep hkn (by show B+1≠NB;omega)
 have hB2':=hB2.keep hkn (by show B+1+1≠NB;omega)
 have hP':=hP.keep hkn (by show PB≠NB;omega)
 have hNB':Blk (w5.setCell ⟨NB,a5+lv,none⟩ (J 1)) (NB) ((List.replicate n (J 0)).set (a5+lv) (J 1)):=by
  have h9:=hNB.set (a5+lv) (J 1);exact h9
 have hSB':=hSB.keep hkn (by show NB+1≠NB;omega)
 have hGB':=hGB.keep hkn (by show GB≠NB;omega)
 have hkw':=hkw.trans (hkn.mono fun b hb=>by have hb:b<B:=hb;show b≠NB;omega)
 clear hB1 hB2 hP hNB hSB hGB hkw hkn;have HB1:=hid hB1';have HB2:=hid hB2';have HP:=hid hP';have HNB:=hid hNB';have HSB:=hid hSB';have HGB:=hid hGB';have Hkw:=hid hkw';clear hB1' hB2' hP' hNB' hSB' hGB' hkw'
 go_upto_region 11 with fail
 generalize w5.setCell ⟨NB,a5+lv,none⟩ (J 1)=w6 at*;clear g0 g1 g2 g3 g4 g5 g6 g7 g8 g9 g10 g11 g12 g13 g14 y0 y1 y2 y3 y4 y5 y6 y7 y8 y9 f1 hin hinI hcl;have hB1:=HB1.out;have hB2:=HB2.out;have hP:=HP.out;have hNB:=HNB.out;have hSB:=HSB.out;have hGB:=HGB.out;have hkw:=Hkw.out;clear HB1 HB2 HP HNB HSB HGB Hkw;have hpc:=hP;unfold PlanM.flat at hpc;obtain⟨g0,g1,g2,g3,g4,g5,g6,g7,g8,g9,g10,g11,g12,g13,g14⟩:=hpc.c15
 clear hpc;rw[Ha5.out]at g5;rw[Hlv.out]at g14;have hsc:=hSB;obtain⟨y0,y1,y2,y3,y4,y5,y6,y7,y8,y9⟩:=hsc.c10;clear hsc;have f1:=hNB.free (a5+lv+1);have hin:(a5+lv+1)<n:=by omega
 have hinI:(((a5+lv+1:Nat)):Int)<(n:Int):=by omega
 obtain⟨old,hold⟩:∃x,((List.replicate n (J 0)).set (a5+lv) (J 1))[a5+lv+1]? =some x:=⟨_,List.getElem?_eq_getElem (by simp;omega)⟩
 have hcl:=(hNB.cell (a5+lv+1)).trans hold;clear hold;have hkn:Keeps (· ≠NB) w6 (w6.setCell ⟨NB,a5+lv+1,none⟩ (J (a5:Int))):=(Keeps.refl _ _).setCell (p:=⟨NB,a5+lv+1,none⟩) (fun h=>h rfl) _;have hB1':=hB1.keep hkn (by show B+1≠NB;omega)
 have hB2':=hB2.keep hkn (by show B+1+1≠NB;omega)
 have hP':=hP.keep hkn (by show PB≠NB;omega)
 have hNB':Blk (w6.setCell ⟨NB,a5+lv+1,none⟩ (J (a5:Int))) (NB) (((List.replicate n (J 0)).set (a5+lv) (J 1)).set (a5+lv+1) (J (a5:Int))):=by
  have h9:=hNB.set (a5+lv+1) (J (a5:Int));exact h9
 have hSB':=hSB.keep hkn (by show NB+1≠NB;omega)
 have hGB':=hGB.keep hkn (by show GB≠NB;omega)
 have hkw':=hkw.trans (hkn.mono fun b hb=>by have hb:b<B:=hb;show b≠NB;omega)
 clear hB1 hB2 hP hNB hSB hGB hkw hkn;have HB1:=hid hB1';have HB2:=hid hB2';have HP:=hid hP';have HNB:=hid hNB';have HSB:=hid hSB';have HGB:=hid hGB';have Hkw:=hid hkw';clear hB1' hB2' hP' hNB' hSB' hGB' hkw'
 go_upto_region 12 with fail
 generalize w6.setCell ⟨NB,a5+lv+1,none⟩ (J (a5:Int))=w7 at*;clear g0 g1 g2 g3 g4 g5 g6 g7 g8 g9 g10 g11 g12 g13 g14 y0 y1 y2 y3 y4 y5 y6 y7 y8 y9 f1 hin hinI hcl;have hB1:=HB1.out;have hB2:=HB2.out;have hP:=HP.out;have hNB:=HNB.out;have hSB:=HSB.out;have hGB:=HGB.out;have hkw:=Hkw.out;clear HB1 HB2 HP HNB HSB HGB Hkw;have hpc:=hP;unfold PlanM.flat at hpc;obtain⟨g0,g1,g2,g3,g4,g5,g6,g7,g8,g9,g10,g11,g12,g13,g14⟩:=hpc.c15
 clear hpc;rw[Ha5.out]at g5;rw[Hlv.out]at g14;have hsc:=hSB;obtain⟨y0,y1,y2,y3,y4,y5,y6,y7,y8,y9⟩:=hsc.c10;clear hsc;have f1:=hNB.free (2);have hin:(2)<n:=by omega
 have hinI:(((2:Nat)):Int)<(n:Int):=by omega
 obtain⟨old,hold⟩:∃x,(((List.replicate n (J 0)).set (a5+lv) (J 1)).set (a5+lv+1) (J (a5:Int)))[2]? =some x:=⟨_,List.getElem?_eq_getElem (by simp;omega)⟩
 have hcl:=(hNB.cell (2)).trans hold;clear hold;have hkn:Keeps (· ≠NB) w7 (w7.setCell ⟨NB,2,none⟩ (J ((a5:Int)+(lv:Int)))):=(Keeps.refl _ _).setCell (p:=⟨NB,2,none⟩) (fun h=>h rfl) _;have hB1':=hB1.keep hkn (by show B+1≠NB;omega)
 have hB2':=hB2.keep hkn (by show B+1+1≠NB;omega)
 have hP':=hP.keep hkn (by show PB≠NB;omega)
 have hNB':Blk (w7.setCell ⟨NB,2,none⟩ (J ((a5:Int)+(lv:Int)))) (NB) ((((List.replicate n (J 0)).set (a5+lv) (J 1)).set (a5+lv+1) (J (a5:Int))).set 2 (J ((a5:Int)+(lv:Int)))):=by
  have h9:=hNB.set (2) (J ((a5:Int)+(lv:Int)));exact h9
 have hSB':=hSB.keep hkn (by show NB+1≠NB;omega)
 have hGB':=hGB.keep hkn (by show GB≠NB;omega)
 have hkw':=hkw.trans (hkn.mono fun b hb=>by have hb:b<B:=hb;show b≠NB;omega)
 clear hB1 hB2 hP hNB hSB hGB hkw hkn;have HB1:=hid hB1';have HB2:=hid hB2';have HP:=hid hP';have HNB:=hid hNB';have HSB:=hid hSB';have HGB:=hid hGB';have Hkw:=hid hkw';clear hB1' hB2' hP' hNB' hSB' hGB' hkw'
 go_upto_region 13 with fail
 generalize w7.setCell ⟨NB,2,none⟩ (J ((a5:Int)+(lv:Int)))=w8 at*;clear g0 g1 g2 g3 g4 g5 g6 g7 g8 g9 g10 g11 g12 g13 g14 y0 y1 y2 y3 y4 y5 y6 y7 y8 y9 f1 hin hinI hcl;have hB1:=HB1.out;have hB2:=HB2.out;have hP:=HP.out;have hNB:=HNB.out;have hSB:=HSB.out;have hGB:=HGB.out;have hkw:=Hkw.out;clear HB1 HB2 HP HNB HSB HGB Hkw;have hpc:=hP;unfold PlanM.flat at hpc;obtain⟨g0,g1,g2,g3,g4,g5,g6,g7,g8,g9,g10,g11,g12,g13,g14⟩:=hpc.c15
 clear hpc;have hsc:=hSB;obtain⟨y0,y1,y2,y3,y4,y5,y6,y7,y8,y9⟩:=hsc.c10;clear hsc;have HB1:=hid hB1;have HB2:=hid hB2;have HP:=hid hP;have HNB:=hid hNB;have HSB:=hid hSB;have HGB:=hid hGB;have Hkw:=hid hkw;clear hB1 hB2 hP hNB hSB hGB hkw;have zz140:=PLift.up @c673;exact c671):p:=h
theorem c170 (h:p:=by
 rw[hcli]at hlay ⊢;have Hcli:=hid hcli;have HLAY:=hid hlay;clear hcli hlay;refine calls_hide fun R' hR'=>?_
 go_enter Tryz.func9,Tryz.ntmps9
 go_wp2_with fail
 refine calls_gen (fun W0=>Blk W0 w.heap.size [I docs,I terms,I q0,I q1,I q2,I q3,I book,I room,kk,bb]∧Keeps (· <w.heap.size) w W0) ⟨?_,?_⟩ (fun W0 HW=>?_)
 ·exact bA
 ·exact kA
 obtain⟨hA0,hkA⟩:=HW;generalize hBB:w.heap.size=B at*;refine(HLAY.out W0).mono ?_;rintro e w1 ⟨rfl,hk1⟩;have hB0:=hA0.keep hk1 hA0.lt;have hkw:Keeps (· <B) w w1:=hkA.trans (hk1.mono fun b hb=>by have:=hA0.lt;omega)
 clear hA0 hkA hk1 HLAY;unfold PlanM.val;have HB0:=hid hB0;have Hkw:=hid hkw;have HBB:=hid hBB;clear hB0 hkw hBB
 go_upto_region 2 with fail
 refine wp_gen (fun W3=>Blk W3 B [I docs,I terms,I q0,I q1,I q2,I q3,I book,I room,kk,bb]∧Blk W3 w1.heap.size p.flat∧Keeps (· <B) w W3∧w1.heap.size<W3.heap.size) ⟨HB0.out.alloc _,Blk.new w1 p.flat _,Hkw.out.trans (((Keeps.refl (· <w1.heap.size) w1).alloc (fun b hb=>hb) _).mono fun b hb=>by have:=HB0.out.lt;omega),by simp⟩ (fun w2 HW=>?_)
 have hPl:=HB0.out.lt;clear HB0 Hkw;obtain⟨hB0,hP,hkw,hz3⟩:=HW;generalize hPB:w1.heap.size=PB at*;clear hPB;have hpc:=hP;unfold PlanM.flat at hpc;obtain⟨g0,g1,g2,g3,g4,g5,g6,g7,g8,g9,g10,g11,g12,g13,g14⟩:=hpc.c15;clear hpc;rw[Hpn.out]at g12;have hb1:decide ((n:Int)>5000)=false:=decide_eq_false (by omega)
 have hb2:decide (5000<(n:Int))=false:=decide_eq_false (by omega)
 have HB0:=hid hB0;have HP:=hid hP;have Hkw:=hid hkw;clear hB0 hP hkw
 go_wp2_with fail
 refine(mem_newI w2 (n:Int) (by omega) (by omega)).mono ?_
 rintro e w3 ⟨rfl,hm3,hk3,hz4⟩;rw[Int.toNat_natCast]at hm3;have hB3:=HB0.out.keep hk3 HB0.out.lt;have hP3:=HP.out.keep hk3 HP.out.lt;have hkw3:Keeps (· <B) w w3:=Hkw.out.trans (hk3.mono fun b hb=>by have:=HB0.out.lt;omega)
 have hPM:=HP.out.lt;clear HB0 HP Hkw hk3 hb1 hb2 g0 g1 g2 g3 g4 g5 g6 g7 g8 g9 g10 g11 g12 g13 g14;generalize hMM:w2.heap.size=M at*;clear hMM;have hcb:=hB3;obtain⟨c0,c1,c2,c3,c4,c5,c6,c7,c8,c9⟩:=hcb.c10;clear hcb;exact zz9.down):p:=h
theorem c171 (h:p:=by
 have Hm3:=hid hm3;have HB3:=hid hB3;have HP3:=hid hP3;have Hkw3:=hid hkw3;clear hm3 hB3 hP3 hkw3
 go_wp2_with fail
 refine(HNEW.out w3 (HT.out.keep (K:=(· <B)) Hkw3.out (by show 0<B;have:=HT.out.2.2.2.2;have:=HBB.out;omega)) _ (fun W hk=>by have h9:=mem_len (Hm3.out.keep hk Hm3.out.obj.lt Hm3.out.cells.lt);rw[List.length_replicate]at h9;exact h9)).mono ?_
 rintro e w4 ⟨rfl,hk4⟩;have hB4:=HB3.out.keep hk4 HB3.out.lt;have hm4:=Hm3.out.keep hk4 Hm3.out.obj.lt Hm3.out.cells.lt;have hkw4:Keeps (· <B) w w4:=Hkw3.out.trans (hk4.mono fun b hb=>by have:=HB3.out.lt;omega)
 clear HB3 Hm3 Hkw3 hk4 HP3 c0 c1 c2 c3 c4 c5 c6 c7 c8 c9;unfold wr0;have HB4:=hid hB4;have Hm4:=hid hm4;have Hkw4:=hid hkw4;clear hB4 hm4 hkw4
 go_upto_region 6 with fail
 refine wp_gen (fun W3=>Blk W3 B [I docs,I terms,I q0,I q1,I q2,I q3,I book,I room,kk,bb]∧MemAt W3 (M+1) M ⟨List.replicate n 0,0,0⟩∧Keeps (· <B) w W3) ⟨HB4.out.alloc _,Hm4.out.keep ((Keeps.refl (· <w4.heap.size) w4).alloc (fun b hb=>hb) _) Hm4.out.obj.lt Hm4.out.cells.lt,Hkw4.out.trans (((Keeps.refl (· <w4.heap.size) w4).alloc (fun b hb=>hb) _).mono fun b hb=>by have:=HB4.out.lt;omega)⟩ (fun w5 HW=>?_)
 clear HB4 Hm4 Hkw4;obtain⟨hB5,hm5,hkw5⟩:=HW;have hcb:=hB5;obtain⟨c0,c1,c2,c3,c4,c5,c6,c7,c8,c9⟩:=hcb.c10;clear hcb;have HB5:=hid hB5;have Hm5:=hid hm5;have Hkw5:=hid hkw5;clear hB5 hm5 hkw5
 go_wp2_with fail
 refine(HREF.out w5).mono ?_;rintro e w6 ⟨rfl,hk6⟩;have hm6:=Hm5.out.keep hk6 Hm5.out.obj.lt Hm5.out.cells.lt;have hkw6:Keeps (· <B) w w6:=Hkw5.out.trans (hk6.mono fun b hb=>by have:=HB5.out.lt;omega)
 have hBl:=HB5.out.lt;have hsz6:=hk6.size;clear HB5 Hm5 Hkw5 hk6 c0 c1 c2 c3 c4 c5 c6 c7 c8 c9;unfold st0 PlanM.val;have Hm6:=hid hm6;have Hkw6:=hid hkw6;clear hm6 hkw6
 go_upto_region 7 with fail
 refine wp_gen (fun W3=>MemAt W3 (M+1) M ⟨List.replicate n 0,0,0⟩∧Keeps (· <B) w W3) ⟨Hm6.out.keep (((Keeps.refl (· <w6.heap.size) w6).alloc (fun b hb=>hb) _).alloc (fun b hb=>by simp;omega) _) Hm6.out.obj.lt Hm6.out.cells.lt,Hkw6.out.trans ((((Keeps.refl (· <w6.heap.size) w6).alloc (fun b hb=>hb) _).alloc (fun b hb=>by simp;omega) _).mono fun b hb=>by omega)⟩ (fun w7 HW=>?_)
 clear Hm6 Hkw6;obtain⟨hm7,hkw7⟩:=HW;have Hm7:=hid hm7;have Hkw7:=hid hkw7;clear hm7 hkw7
 go_wp2_with fail
 refine(mem_stores Hm7.out).mono ?_;rintro e w8 ⟨rfl,rfl⟩
 go_wp2_with fail
 exact hR'.out _ _ ⟨rfl,Hkw7.out⟩):p:=h
theorem c172 (h:p:=by
 have hT3:=HT.out.keep (K:=(· <B)) hkw3 (by show 0<B;have:=HT.out.2.2.2.2;have:=HBB.out;omega)
 have hMB:B<M:=by have:=hB3.lt;omega
 have hnew9:=HNEW.out w3 hT3 (M+1) M hm3 (by omega) (by have:=HT.out.2.2.2.2;have:=HBB.out;omega)
 unfold WrM.vals at hnew9;dsimp only at hnew9;have HNEW9:=hid hnew9;clear hnew9 HNEW hT3;have Hm3:=hid hm3;have HB3:=hid hB3;have HP3:=hid hP3;have Hkw3:=hid hkw3;clear hm3 hB3 hP3 hkw3
 go_wp2_with fail
 refine HNEW9.out.mono ?_;rintro e w4 ⟨gS,hge9,rfl,hgb,hm4,hk4⟩;have hs3:=hk4.size;have hM3:=Hm3.out.obj.lt;have hB4:=HB3.out.keep hk4 ⟨by have:=HB3.out.lt;omega,by omega,by omega⟩
 have hP4:=HP3.out.keep hk4 ⟨by have:=HP3.out.lt;omega,by omega,by omega⟩
 have hkw4:Keeps (· <B) w w4:=Hkw3.out.trans (hk4.mono fun b hb=>⟨by omega,by omega,by omega⟩)
 have hgM:M+1<gS:=by omega
 clear HB3 HP3 Hm3 Hkw3 hk4 HNEW9 c0 c1 c2 c3 c4 c5 c6 c7 c8 c9;unfold wr0 SegM.cells at*;dsimp only at hgb;have Hm4:=hid hm4;have HB4:=hid hB4;have HP4:=hid hP4;have Hkw4:=hid hkw4;have Hgb:=hid hgb;clear hm4 hB4 hP4 hkw4 hgb
 go_upto_region 6 with fail
 refine wp_gen (fun W3=>Blk W3 B [I docs,I terms,I q0,I q1,I q2,I q3,I book,I room,kk,bb]∧Blk W3 PB p.flat∧Blk W3 w4.heap.size [.slice (some ⟨gS,0,none⟩) 1 1,I 0,J 0,I 0,I 0,I 0,I 0,I 0,I (p.live+2)]∧Blk W3 gS [I p.base.a5,I (0:Nat),.bool false]∧MemAt W3 (M+1) M μ1∧Keeps (· <B) w W3)
  ⟨HB4.out.alloc _,HP4.out.alloc _,Blk.new w4 [.slice (some ⟨gS,0,none⟩) 1 1,I 0,J 0,I 0,I 0,I 0,I 0,I 0,I (p.live+2)] _,Hgb.out.alloc _,Hm4.out.keep ((Keeps.refl (· <w4.heap.size) w4).alloc (fun b hb=>hb) _) Hm4.out.obj.lt Hm4.out.cells.lt,Hkw4.out.trans (((Keeps.refl (· <w4.heap.size) w4).alloc (fun b hb=>hb) _).mono fun b hb=>by have:=HB4.out.lt;omega)⟩ (fun w5 HW=>?_)
 have hgW:=Hgb.out.lt;clear HB4 HP4 Hm4 Hkw4 Hgb;obtain⟨hB5,hP5,hWB5,hgb5,hm5,hkw5⟩:=HW;generalize w4.heap.size=WB at*;have hcb:=hB5;obtain⟨c0,c1,c2,c3,c4,c5,c6,c7,c8,c9⟩:=hcb.c10;clear hcb;have HB5:=hid hB5;have HP5:=hid hP5;have HWB5:=hid hWB5;have Hgb5:=hid hgb5;have Hm5:=hid hm5;have Hkw5:=hid hkw5;clear hB5 hP5 hWB5 hgb5 hm5 hkw5
 go_wp2_with fail
 refine(HREF.out w5).mono ?_;rintro e w6 ⟨NB,GB,rfl,hgeN,hgeG,hNB6,hGB6,hk6⟩;have hB6:=HB5.out.keep hk6 HB5.out.lt;have hP6:=HP5.out.keep hk6 HP5.out.lt;have hWB6:=HWB5.out.keep hk6 HWB5.out.lt;have hgb6:=Hgb5.out.keep hk6 Hgb5.out.lt;have hm6:=Hm5.out.keep hk6 Hm5.out.obj.lt Hm5.out.cells.lt;have hBl:=HB5.out.lt;have hWl:=HWB5.out.lt;have hs5:=hk6.size;have hkw6:Keeps (· <B) w w6:=Hkw5.out.trans (hk6.mono fun b hb=>by omega)
 clear HB5 HP5 HWB5 Hgb5 Hm5 Hkw5 hk6 c0 c1 c2 c3 c4 c5 c6 c7 c8 c9;unfold PlanM.val;have HB6:=hid hB6;have HP6:=hid hP6;have HWB6:=hid hWB6;have Hgb6:=hid hgb6;have Hm6:=hid hm6;have Hkw6:=hid hkw6;have HNB6:=hid hNB6;have HGB6:=hid hGB6;clear hB6 hP6 hWB6 hgb6 hm6 hkw6 hNB6 hGB6
 go_upto_region 7 with fail
 refine wp_gen (fun W3=>Blk W3 B [I docs,I terms,I q0,I q1,I q2,I q3,I book,I room,kk,bb]∧Blk W3 PB p.flat∧Blk W3 WB [.slice (some ⟨gS,0,none⟩) 1 1,I 0,J 0,I 0,I 0,I 0,I 0,I 0,I (p.live+2)]∧Blk W3 gS [I p.base.a5,I (0:Nat),.bool false]∧Blk W3 w6.heap.size [.slice (some ⟨NB,0,none⟩) n n,.slice (some ⟨GB,0,none⟩) 1 1,I 0,J 0,I 0,I 0,I 0,I 0,I 0,I (p.live+2)]∧Blk W3 NB (ncs.map (Value.int .u32))∧Blk W3 GB [I p.base.a5,I (0:Nat),.bool false]∧MemAt W3 (M+1) M μ1∧Keeps (· <B) w W3)
  ⟨(HB6.out.alloc _).alloc _,(HP6.out.alloc _).alloc _,(HWB6.out.alloc _).alloc _,(Hgb6.out.alloc _).alloc _,(Blk.new w6 [.slice (some ⟨NB,0,none⟩) n n,.slice (some ⟨GB,0,none⟩) 1 1,I 0,J 0,I 0,I 0,I 0,I 0,I 0,I (p.live+2)] _).alloc _,(HNB6.out.alloc _).alloc _,(HGB6.out.alloc _).alloc _,Hm6.out.keep (((Keeps.refl (· <w6.heap.size) w6).alloc (fun b hb=>hb) _).alloc (fun b hb=>by simp;omega) _) Hm6.out.obj.lt Hm6.out.cells.lt,Hkw6.out.trans ((((Keeps.refl (· <w6.heap.size) w6).alloc (fun b hb=>hb) _).alloc (fun b hb=>by simp;omega) _).mono fun b hb=>by omega)⟩ (fun w7 HW=>?_)
 have hNl:=HNB6.out.lt;have hGl:=HGB6.out.lt;clear HB6 HP6 HWB6 Hgb6 Hm6 Hkw6 HNB6 HGB6;obtain⟨hB7,hP7,hWB7,hgb7,hSB7,hNB7,hGB7,hm7,hkw7⟩:=HW;generalize w6.heap.size=SB at*;have hlB:=hB7.lt;have hlP:=hP7.lt;have hlW:=hWB7.lt;have hlS:=hSB7.lt;have hcb:=hB7;obtain⟨c0,c1,c2,c3,c4,c5,c6,c7,c8,c9⟩:=hcb.c10;clear hcb;have hcb:=hP7;unfold PlanM.flat at hcb;obtain⟨g0,g1,g2,g3,g4,g5,g6,g7,g8,g9,g10,g11,g12,g13,g14⟩:=hcb.c15
 clear hcb;have hcb:=hWB7;obtain⟨y0,y1,y2,y3,y4,y5,y6,y7,y8⟩:=hcb.c9;clear hcb;have hcb:=hSB7;obtain⟨z0,z1,z2,z3,z4,z5,z6,z7,z8,z9⟩:=hcb.c10;clear hcb;have HSS:=hid (show∀w':World,Keeps (· <w7.heap.size) w7 w'→(e0_10 w' B (I docs) (I terms) (I q0) (I q1) (I q2) (I q3) (I book) (I room) (kk) (bb) (e0_15 w' PB (I p.base.a0) (I p.base.a1) (I p.base.a2) (I p.base.a3) (I p.base.a4) (I p.base.a5) (I p.size.a0) (I p.size.a1) (I p.size.a2) (I p.size.a3) (I p.size.a4) (I p.size.a5) (I p.cells) (I p.slots) (I p.live) (e0_9 w' WB (.slice (some ⟨gS,0,none⟩) 1 1) (I 0) (J 0) (I 0) (I 0) (I 0) (I 0) (I 0) (I (p.live+2)) (d0_10 w' SB (.slice (some ⟨NB,0,none⟩) n n) (.slice (some ⟨GB,0,none⟩) 1 1) (I 0) (J 0) (I 0) (I 0) (I 0) (I 0) (I 0) (I (p.live+2))))))∧(¬w'.heap.size=B∧¬w'.heap.size=PB∧¬w'.heap.size=WB∧¬w'.heap.size=SB)from by
  intro w' k;have eB:=fun i=>World.cell?_of_block (a:=⟨B,i,none⟩) (k.block B hlB);have ePB:=fun i=>World.cell?_of_block (a:=⟨PB,i,none⟩) (k.block PB hlP);have eWB:=fun i=>World.cell?_of_block (a:=⟨WB,i,none⟩) (k.block WB hlW);have eSB:=fun i=>World.cell?_of_block (a:=⟨SB,i,none⟩) (k.block SB hlS);have hks:=k.size;exact⟨⟨(eB 0).trans c0,(eB 1).trans c1,(eB 2).trans c2,(eB 3).trans c3,(eB 4).trans c4,(eB 5).trans c5,(eB 6).trans c6,(eB 7).trans c7,(eB 8).trans c8,(eB 9).trans c9,(ePB 0).trans g0,(ePB 1).trans g1,(ePB 2).trans g2,(ePB 3).trans g3,(ePB 4).trans g4,(ePB 5).trans g5,(ePB 6).trans g6,(ePB 7).trans g7,(ePB 8).trans g8,(ePB 9).trans g9,(ePB 10).trans g10,(ePB 11).trans g11,(ePB 12).trans g12,(ePB 13).trans g13,(ePB 14).trans g14,(eWB 0).trans y0,(eWB 1).trans y1,(eWB 2).trans y2,(eWB 3).trans y3,(eWB 4).trans y4,(eWB 5).trans y5,(eWB 6).trans y6,(eWB 7).trans y7,(eWB 8).trans y8,(eSB 0).trans z0,(eSB 1).trans z1,(eSB 2).trans z2,(eSB 3).trans z3,(eSB 4).trans z4,(eSB 5).trans z5,(eSB 6).trans z6,(eSB 7).trans z7,(eSB 8).trans z8,(eSB 9).trans z9⟩,by omega,by omega,by omega,by omega⟩)
 have hsA:SlAt w7 (· <w7.heap.size) 3 (.slice (some ⟨gS,0,none⟩) 1 1) 1 ([⟨p.base.a5,0,false⟩].flatMap SegM.cells):=SlAt.of_blkS hgb7 hgb7.lt rfl (by decide)
 have hsB:SlAt w7 (· <w7.heap.size) 3 (.slice (some ⟨GB,0,none⟩) 1 1) 1 ([⟨p.base.a5,0,false⟩].flatMap SegM.cells):=SlAt.of_blkS hGB7 hGB7.lt rfl (by decide)
 have hsC:SlAt w7 (· <w7.heap.size) 1 (.slice (some ⟨NB,0,none⟩) n n) n (ncs.map (Value.int .u32)):=SlAt.of_blkS hNB7 hNB7.lt (by rw[List.length_map,Hnlen.out,Nat.mul_one]) (by unfold maxLen;omega)
 have HA1:=hid (show∀wa,Keeps (· <w7.heap.size) w7 wa→Z 20 #[.pointer (some ⟨M+1,0,none⟩)] wa fun e w'=>∃nb,e= .returned (.slice (some ⟨nb,0,none⟩) n n)∧Hid (Blk w' nb (ncs.map (Value.int .u32))∧Keeps (· <w7.heap.size) w7 w'∧Keeps (· <wa.heap.size) wa w')∧(e0_10 w' B (I docs) (I terms) (I q0) (I q1) (I q2) (I q3) (I book) (I room) (kk) (bb) (e0_15 w' PB (I p.base.a0) (I p.base.a1) (I p.base.a2) (I p.base.a3) (I p.base.a4) (I p.base.a5) (I p.size.a0) (I p.size.a1) (I p.size.a2) (I p.size.a3) (I p.size.a4) (I p.size.a5) (I p.cells) (I p.slots) (I p.live) (e0_9 w' WB (.slice (some ⟨gS,0,none⟩) 1 1) (I 0) (J 0) (I 0) (I 0) (I 0) (I 0) (I 0) (I (p.live+2)) (d0_10 w' SB (.slice (some ⟨NB,0,none⟩) n n) (.slice (some ⟨GB,0,none⟩) 1 1) (I 0) (J 0) (I 0) (I 0) (I 0) (I 0) (I 0) (I (p.live+2))))))∧(¬w'.heap.size=B∧¬w'.heap.size=PB∧¬w'.heap.size=WB∧¬w'.heap.size=SB)from fun wa h1=>by
  refine(mem_cells (hm7.keep h1 hm7.obj.lt hm7.cells.lt)).mono ?_;rintro e w' ⟨rfl,h3,h4⟩;rw[Hcells.out,Hnlen.out];rw[Hcells.out]at h3;have h9:=h1.trans (h4.mono fun b hb=>by have:=h1.size;omega)
  exact⟨_,rfl,⟨h3,h9,h4⟩,HSS.out _ h9⟩)
 have HA2:=hid (show∀wa nb,Blk wa nb (ncs.map (Value.int .u32))→Keeps (· <w7.heap.size) w7 wa→Z 26 #[.slice (some ⟨nb,0,none⟩) n n,.slice (some ⟨NB,0,none⟩) n n] wa fun e w'=>e= .returned (.bool true)∧Hid (Keeps (· <w7.heap.size) w7 w'∧Keeps (· <wa.heap.size) wa w')∧(e0_10 w' B (I docs) (I terms) (I q0) (I q1) (I q2) (I q3) (I book) (I room) (kk) (bb) (e0_15 w' PB (I p.base.a0) (I p.base.a1) (I p.base.a2) (I p.base.a3) (I p.base.a4) (I p.base.a5) (I p.size.a0) (I p.size.a1) (I p.size.a2) (I p.size.a3) (I p.size.a4) (I p.size.a5) (I p.cells) (I p.slots) (I p.live) (e0_9 w' WB (.slice (some ⟨gS,0,none⟩) 1 1) (I 0) (J 0) (I 0) (I 0) (I 0) (I 0) (I 0) (I (p.live+2)) (d0_10 w' SB (.slice (some ⟨NB,0,none⟩) n n) (.slice (some ⟨GB,0,none⟩) 1 1) (I 0) (J 0) (I 0) (I 0) (I 0) (I 0) (I 0) (I (p.live+2))))))∧(¬w'.heap.size=B∧¬w'.heap.size=PB∧¬w'.heap.size=WB∧¬w'.heap.size=SB)from fun wa nb h0 h1=>by
  have h7:SlAt wa (· <wa.heap.size) 1 (.slice (some ⟨nb,0,none⟩) ncs.length ncs.length) ncs.length (ncs.map (Value.int .u32)):=SlAt.of_blkS h0 h0.lt (by rw[List.length_map,Nat.mul_one]) (by rw[Hnlen.out];unfold maxLen;omega)
  have h8:SlAt wa (· <wa.heap.size) 1 (.slice (some ⟨NB,0,none⟩) n n) ncs.length (ncs.map (Value.int .u32)):=by
   rw[Hnlen.out];exact(hsC.keep h1 fun b hb=>hb).mono fun b hb=>by have:=h1.size;show b<wa.heap.size;omega
  have h6:=same_any h7 h8;rw[Hnlen.out]at h6;refine h6.mono ?_;rintro e w' ⟨rfl,nn,rfl⟩;have h9:=h1.drewN nn;exact⟨by rw[decide_eq_true rfl],⟨h9,(Keeps.refl _ _).drewN nn⟩,HSS.out _ h9⟩)
 have HA3:=hid (show∀wa,Keeps (· <w7.heap.size) w7 wa→Z 27 #[.agg #[.slice (some ⟨gS,0,none⟩) 1 1,I 0,J 0,I 0,I 0,I 0,I 0,I 0,I (p.live+2)],.agg #[.slice (some ⟨GB,0,none⟩) 1 1,I 0,J 0,I 0,I 0,I 0,I 0,I 0,I (p.live+2)]] wa fun e w'=>e= .returned (.bool true)∧Hid (Keeps (· <w7.heap.size) w7 w'∧Keeps (· <wa.heap.size) wa w')∧(e0_10 w' B (I docs) (I terms) (I q0) (I q1) (I q2) (I q3) (I book) (I room) (kk) (bb) (e0_15 w' PB (I p.base.a0) (I p.base.a1) (I p.base.a2) (I p.base.a3) (I p.base.a4) (I p.base.a5) (I p.size.a0) (I p.size.a1) (I p.size.a2) (I p.size.a3) (I p.size.a4) (I p.size.a5) (I p.cells) (I p.slots) (I p.live) (e0_9 w' WB (.slice (some ⟨gS,0,none⟩) 1 1) (I 0) (J 0) (I 0) (I 0) (I 0) (I 0) (I 0) (I (p.live+2)) (d0_10 w' SB (.slice (some ⟨NB,0,none⟩) n n) (.slice (some ⟨GB,0,none⟩) 1 1) (I 0) (J 0) (I 0) (I 0) (I 0) (I 0) (I 0) (I (p.live+2))))))∧(¬w'.heap.size=B∧¬w'.heap.size=PB∧¬w'.heap.size=WB∧¬w'.heap.size=SB)from fun wa h1=>by
  refine(ref12_same [⟨p.base.a5,0,false⟩] 0 0 0 0 0 0 0 (p.live+2) (some ⟨gS,0,none⟩) 1 (some ⟨GB,0,none⟩) 1 wa (· <w7.heap.size) (fun b hb=>by have:=h1.size;omega) (hsA.keep h1 fun b hb=>hb) (hsB.keep h1 fun b hb=>hb) (by show 1≤65536;decide)).mono ?_
  rintro e w' ⟨rfl,h4⟩;have h9:=h1.trans (h4.mono fun b hb=>by have:=h1.size;omega)
  exact⟨rfl,⟨h9,h4⟩,HSS.out _ h9⟩)
 have hne7:¬w7.heap.size=B∧¬w7.heap.size=PB∧¬w7.heap.size=WB∧¬w7.heap.size=SB:=⟨by omega,by omega,by omega,by omega⟩
 obtain⟨hn71,hn72,hn73,hn74⟩:=hne7;have hX45:∀WZ X,Blk WZ X [I docs,I terms,I q0,I q1,I q2,I q3,I book,I room,kk,bb,I p.base.a0,I p.base.a1,I p.base.a2,I p.base.a3,I p.base.a4,I p.base.a5,I p.size.a0,I p.size.a1,I p.size.a2,I p.size.a3,I p.size.a4,I p.size.a5,I p.cells,I p.slots,I p.live,.pointer (some ⟨M+1,0,none⟩),.slice (some ⟨gS,0,none⟩) 1 1,I 0,J 0,I 0,I 0,I 0,I 0,I 0,I (p.live+2),.slice (some ⟨NB,0,none⟩) n n,.slice (some ⟨GB,0,none⟩) 1 1,I 0,J 0,I 0,I 0,I 0,I 0,I 0,I (p.live+2)]→Blk WZ X (xCells C (M+1) nw (.slice (some ⟨gS,0,none⟩) 1 1) (.slice (some ⟨NB,0,none⟩) n n) (.slice (some ⟨GB,0,none⟩) 1 1)):=fun WZ X hb=>by
  rw[Hxc.out,Hcli.out,Hnw.out];exact hb
 have HFIN:=hid (show∀WZ X,Keeps (· <w7.heap.size) w7 WZ→w7.heap.size≤X→Blk WZ X [I docs,I terms,I q0,I q1,I q2,I q3,I book,I room,kk,bb,I p.base.a0,I p.base.a1,I p.base.a2,I p.base.a3,I p.base.a4,I p.base.a5,I p.size.a0,I p.size.a1,I p.size.a2,I p.size.a3,I p.size.a4,I p.size.a5,I p.cells,I p.slots,I p.live,.pointer (some ⟨M+1,0,none⟩),.slice (some ⟨gS,0,none⟩) 1 1,I 0,J 0,I 0,I 0,I 0,I 0,I 0,I (p.live+2),.slice (some ⟨NB,0,none⟩) n n,.slice (some ⟨GB,0,none⟩) 1 1,I 0,J 0,I 0,I 0,I 0,I 0,I 0,I (p.live+2)]→Wd w0 WZ (fun b=>(b<w0.heap.size∨B≤b)∧b<WZ.heap.size∧b≠X∧b≠M+1∧b≠M) X (M+1) M C ncs nw μ1.stores∧(B≤X∧B≤M+1∧B≤M)∧Keeps (· <B) w WZ from fun WZ X hz hX hb=>by
  have hxb:=hX45 WZ X hb;have hnw:=Hnw.out;have hnl:=Hnlen.out;have hs7:=hz.size;have hs0:=HK0.out.size;have hbb:=HBB.out;have hg7:=hgb7.lt;have hN7:=hNB7.lt;have hG7:=hGB7.lt;subst hnw;refine⟨⟨⟨some ⟨gS,0,none⟩,1,some ⟨NB,0,none⟩,n,some ⟨GB,0,none⟩,1,by rw[hnl];exact hxb,(SlAt.of_blkS (K:=fun b=>b=gS) hgb7 rfl rfl (by show 1≤maxLen;decide)).keep hz (fun b hb=>by rw[hb];exact hg7)|>.mono (fun b hb=>by rw[hb];exact⟨Or.inr (by omega),by omega,by omega,by omega,by omega⟩),?_,(SlAt.of_blkS (K:=fun b=>b=GB) hGB7 rfl rfl (by show 1≤maxLen;decide)).keep hz (fun b hb=>by rw[hb];exact hG7)|>.mono (fun b hb=>by rw[hb];exact⟨Or.inr (by omega),by omega,by omega,by omega,by omega⟩)⟩,
   ⟨μ1,hm7.keep hz hm7.obj.lt hm7.cells.lt,Hcells.out,rfl⟩,fun h=>h.2.2.1 rfl,fun h=>h.2.2.2.1 rfl,fun h=>h.2.2.2.2 rfl,fun b hb=>hb.2.1,by have:=hm7.obj.lt;omega,by have:=hm7.cells.lt;omega,fun b hb=>⟨Or.inl hb,by omega,by omega,by omega,by omega⟩,HK0.out.trans ((hkw7.trans (hz.mono fun b hb=>by omega)).mono fun b hb=>by omega)⟩,⟨by omega,by omega,by omega⟩,hkw7.trans (hz.mono fun b hb=>by omega)⟩
  rw[hnl];exact((SlAt.of_blkS (K:=fun b=>b=NB) hNB7 rfl (by rw[List.length_map,hnl,Nat.mul_one]) (by unfold maxLen;omega)).keep hz (fun b hb=>by rw[hb];exact hN7)).mono (fun b hb=>by rw[hb];exact⟨Or.inr (by omega),by omega,by omega,by omega,by omega⟩))
 have HB7:=hid hB7;have HP7:=hid hP7;have HWB7:=hid hWB7;have Hgb7:=hid hgb7;have HSB7:=hid hSB7;have HNB7:=hid hNB7;have HGB7:=hid hGB7;have Hm7:=hid hm7;have Hkw7:=hid hkw7;have HsA:=hid hsA;have HsB:=hid hsB;have HsC:=hid hsC;clear hB7 hP7 hWB7 hgb7 hSB7 hNB7 hGB7 hm7 hkw7 hsA hsB hsC
 go_upto_region 11 with fail
 go_region_held3 (fun w'=>(e0_10 w' B (I docs) (I terms) (I q0) (I q1) (I q2) (I q3) (I book) (I room) (kk) (bb) (e0_15 w' PB (I p.base.a0) (I p.base.a1) (I p.base.a2) (I p.base.a3) (I p.base.a4) (I p.base.a5) (I p.size.a0) (I p.size.a1) (I p.size.a2) (I p.size.a3) (I p.size.a4) (I p.size.a5) (I p.cells) (I p.slots) (I p.live) (e0_9 w' WB (.slice (some ⟨gS,0,none⟩) 1 1) (I 0) (J 0) (I 0) (I 0) (I 0) (I 0) (I 0) (I (p.live+2)) (d0_10 w' SB (.slice (some ⟨NB,0,none⟩) n n) (.slice (some ⟨GB,0,none⟩) 1 1) (I 0) (J 0) (I 0) (I 0) (I 0) (I 0) (I 0) (I (p.live+2))))))) (go_keep)
  (first
   |(go_at_call 20;refine(HA1.out _ ?_).mono ?_;(focus((repeat(first|with_reducible exact Keeps.refl _ _|with_reducible exact HQ3.out.1|with_reducible exact HQ2.out.1|with_reducible exact HQ1.out.1|with_reducible refine Keeps.drew ?_|with_reducible refine Keeps.drewN ?_ _|with_reducible refine Keeps.alloc ?_ ?_ _));all_goals(intro b hb;first|exact hb|(have:=HQ2.out.1.size;omega)|(have:=HQ1.out.1.size;omega))));rintro e wb1 ⟨nb,rfl,HQ1,⟨q0,q1,q2,q3,q4,q5,q6,q7,q8,q9,q10,q11,q12,q13,q14,q15,q16,q17,q18,q19,q20,q21,q22,q23,q24,q25,q26,q27,q28,q29,q30,q31,q32,q33,q34,q35,q36,q37,q38,q39,q40,q41,q42,q43⟩,qa,qb,qc,qd⟩)
   |(go_at_call 26;refine(HA2.out _ _ ?_ ?_).mono ?_;(focus(repeat(first|with_reducible exact HQ1.out.1|with_reducible refine Blk.drew ?_|with_reducible refine Blk.alloc ?_ _)));(focus((repeat(first|with_reducible exact Keeps.refl _ _|with_reducible exact HQ3.out.1|with_reducible exact HQ2.out.1|with_reducible exact HQ1.out.2.1|with_reducible refine Keeps.drew ?_|with_reducible refine Keeps.drewN ?_ _|with_reducible refine Keeps.alloc ?_ ?_ _));all_goals(intro b hb;first|exact hb|(have:=HQ2.out.1.size;omega)|(have:=HQ1.out.2.1.size;omega))));rintro e wb2 ⟨rfl,HQ2,⟨q0,q1,q2,q3,q4,q5,q6,q7,q8,q9,q10,q11,q12,q13,q14,q15,q16,q17,q18,q19,q20,q21,q22,q23,q24,q25,q26,q27,q28,q29,q30,q31,q32,q33,q34,q35,q36,q37,q38,q39,q40,q41,q42,q43⟩,qa,qb,qc,qd⟩)
   |(go_at_call 27;refine(HA3.out _ ?_).mono ?_;(focus((repeat(first|with_reducible exact Keeps.refl _ _|with_reducible exact HQ3.out.1|with_reducible exact HQ2.out.1|with_reducible exact HQ1.out.2.1|with_reducible refine Keeps.drew ?_|with_reducible refine Keeps.drewN ?_ _|with_reducible refine Keeps.alloc ?_ ?_ _));all_goals(intro b hb;first|exact hb|(have:=HQ2.out.1.size;omega)|(have:=HQ1.out.2.1.size;omega))));rintro e wb3 ⟨rfl,HQ3,⟨q0,q1,q2,q3,q4,q5,q6,q7,q8,q9,q10,q11,q12,q13,q14,q15,q16,q17,q18,q19,q20,q21,q22,q23,q24,q25,q26,q27,q28,q29,q30,q31,q32,q33,q34,q35,q36,q37,q38,q39,q40,q41,q42,q43⟩,qa,qb,qc,qd⟩))
 all_goals
  go_wp2_with fail
  refine hR'.out _ _ ⟨_,M+1,M,μ1.stores,rfl,HFIN.out _ _ ?_ ?_ ?_⟩
  ·(repeat(first|with_reducible exact HQ3.out.1|with_reducible refine Keeps.drew ?_|with_reducible refine Keeps.alloc ?_ ?_ _))
   all_goals(intro b hb;have:=HQ3.out.1.size;omega)
  ·first|with_reducible exact Nat.le_refl _|with_reducible exact HQ1.out.2.1.size|with_reducible exact HQ2.out.1.size|with_reducible exact HQ3.out.1.size
  ·(repeat(first|with_reducible exact Blk.new _ _ _|with_reducible refine Blk.drew ?_|with_reducible refine Blk.keepS HQ3.out.2 ?_|with_reducible refine Blk.keepS HQ2.out.2 ?_|with_reducible refine Blk.keepS HQ1.out.2.2 ?_))):p:=h
theorem c173 (h:p:=by
 have zz144:=PLift.up @c687;exact c685):p:=h
theorem c174 (h:p:=by
 go_loopw[7,8] (fun at' kv wr=>∃k:Nat,k≤6∧kv=I k∧at'=I (baseC ⟨docs,terms,s0,s1,s2,s3,book,room,kk,bb⟩ k)∧Blk wr b [I docs,I terms,I s0,I s1,I s2,I s3,I book,I room,kk,bb]∧Blk wr bs [I (4*s0),I (16*s1),I (64*s2),I (256*s3),I book,I room]∧
  Blk wr (bs+1) [I (upto k (baseC ⟨docs,terms,s0,s1,s2,s3,book,room,kk,bb⟩) 0),I (upto k (baseC ⟨docs,terms,s0,s1,s2,s3,book,room,kk,bb⟩) 1),I (upto k (baseC ⟨docs,terms,s0,s1,s2,s3,book,room,kk,bb⟩) 2),I (upto k (baseC ⟨docs,terms,s0,s1,s2,s3,book,room,kk,bb⟩) 3),I (upto k (baseC ⟨docs,terms,s0,s1,s2,s3,book,room,kk,bb⟩) 4),I (upto k (baseC ⟨docs,terms,s0,s1,s2,s3,book,room,kk,bb⟩) 5),I (4*s0),I (16*s1),I (64*s2),I (256*s3),I book,I room,I 0,I 128,I 0]∧Blk wr (b+1) [I 0,I 0,I 0,I 0,I 0,I 0,I 0,I 0,I 0,I 0,I 0,I 0,I 0,I 0,I 0]∧Keeps (· <b) w wr) (fun _ kv _=>6-(intOf kv).toNat)
 case atStart=>exact⟨0,by omega,rfl,rfl,hC0,hD0,hD1,hD2,hk⟩
 case round=>
  clear hC0 hD0 hD1 hD2 hk;obtain⟨k,hk6,rfl,rfl,hC0,hD0,hD1,hD2,hkr⟩:=hrel
  rcases(by omega:k=0∨k=1∨k=2∨k=3∨k=4∨k=5∨k=6)with rfl|rfl|rfl|rfl|rfl|rfl|rfl
  ·exact c411
  ·exact c410
  ·exact c409
  ·exact c408
  ·exact c407
  ·exact c406
  ·simp only[upto,if_true,Nat.reduceLT]at hD1;have zz94:=PLift.up @c508;exact c507):p:=h
theorem c175 (h:p:=by
 go_loopw[7,8] (fun at' kv wr=>∃k:Nat,k≤6∧kv=I k∧at'=I (baseC ⟨docs,terms,s0,s1,s2,s3,book,room,kk,bb⟩ k)∧Blk wr b [I docs,I terms,I s0,I s1,I s2,I s3,I book,I room,kk,bb]∧Blk wr bs [I (4*s0),I (16*s1),I (64*s2),I (256*s3),I book,I room]∧
  Blk wr (bs+1) [I (upto k (baseC ⟨docs,terms,s0,s1,s2,s3,book,room,kk,bb⟩) 0),I (upto k (baseC ⟨docs,terms,s0,s1,s2,s3,book,room,kk,bb⟩) 1),I (upto k (baseC ⟨docs,terms,s0,s1,s2,s3,book,room,kk,bb⟩) 2),I (upto k (baseC ⟨docs,terms,s0,s1,s2,s3,book,room,kk,bb⟩) 3),I (upto k (baseC ⟨docs,terms,s0,s1,s2,s3,book,room,kk,bb⟩) 4),I (upto k (baseC ⟨docs,terms,s0,s1,s2,s3,book,room,kk,bb⟩) 5),I (4*s0),I (16*s1),I (64*s2),I (256*s3),I book,I room,I 0,I 128,I 0]∧Blk wr (b+1) [I 0,I 0,I 0,I 0,I 0,I 0,I 0,I 0,I 0,I 0,I 0,I 0,I 0,I 0,I 0]∧Keeps (· <b) w wr) (fun _ kv _=>6-(intOf kv).toNat)
 case atStart=>exact⟨0,by omega,rfl,rfl,hC0,hD0,hD1,hD2,hk⟩
 case round=>
  clear hC0 hD0 hD1 hD2 hk;obtain⟨k,hk6,rfl,rfl,hC0,hD0,hD1,hD2,hkr⟩:=hrel
  rcases(by omega:k=0∨k=1∨k=2∨k=3∨k=4∨k=5∨k=6)with rfl|rfl|rfl|rfl|rfl|rfl|rfl
  ·exact c411
  ·exact c410
  ·exact c409
  ·exact c408
  ·exact c407
  ·exact c406
  ·simp only[upto,if_true,Nat.reduceLT]at hD1;have zz94:=PLift.up @c509;exact c507):p:=h
theorem c176 (h:p:=by
 have zz82:=PLift.up @c473;exact c471):p:=h
theorem c177 (h:p:=by
 have HB1:=hid hB1;have HB2:=hid hB2;clear hR1 hB0 hB1 hB2 hT1 hkw
 go_wp2_with fail
 refine(step_store HR1.out (t+1) v hv).mono ?_;rintro e w3 ⟨rfl,hr3,hk3⟩;have hE1:=HB1.out.keep hk3 Hg1'.out;have hE2:=HB2.out.keep hk3 Hg2'.out;have hkf:Keeps K w w3:=HkK.out.trans (hk3.mono HKK.out);have hrf:RM w3 K1 r m c (s.store (t+1) v):=hr3;clear hr3 hk3;have Hkf:=hid hkf;have Hrf:=hid hrf;clear hkf hrf;obtain⟨d0,d1,d2,d3,d4,d5⟩:=hE1.c6;obtain⟨z0,z1,z2,z3,z4,z5⟩:=hE2.c6
 have f2:=hE2.free
 go_wp2_with fail
 go_region
 go_wp2_with fail
 refine bp_gen (fun W=>Blk W (B+1+1) [I u.a0,I u.a1,I u.a2,I u.a3,I u.a4,I u.a5]∧Keeps K w W∧RM W K1 r m c (s.store (t+1) v)) ⟨?_,?_,?_⟩ ?_
 ·exact c69
 ·exact c83
 ·exact c86
 clear hE1 hE2 f2 d0 d1 d2 d3 d4 d5 z0 z1 z2 z3 z4 z5;rintro W3 ⟨hE2,hkf,hrf⟩;obtain⟨d0,d1,d2,d3,d4,d5⟩:=hE2.c6;refine bodyPost_ret (v:= .tuple #[I (t+1),.agg #[I u.a0,I u.a1,I u.a2,I u.a3,I u.a4,I u.a5],I 0]) ?_ rfl ?_
 ·exact c117
 ·exact hR'.out _ _ ⟨rfl,hrf.mono HKK.out,hkf⟩):p:=h
theorem c178 (h:p:=by
 have HB2:=hid hB2;clear hR1 hB0 hB1 hT1 hkw;obtain⟨z0,z1,z2,z3,z4,z5⟩:=hB2.c6;have f2:=hB2.free;clear hB2
 go_wp2_with fail
 refine bp_gen (fun W=>Blk W (B+1+1) [I 0,I 0,I 0,I 0,I 0,I 0]∧Keeps K w W∧RM W K1 r m c s) ⟨?_,?_,?_⟩ ?_
 ·first|with_reducible exact Blk.set6 HB2.out _ _ _ _ _ _ (by simp)|with_reducible exact(Blk.set6 HB2.out _ _ _ _ _ _ (by simp)).drew
 ·exact c125
 ·exact c132
 clear f2 z0 z1 z2 z3 z4 z5;rintro W3 ⟨hE2,hkf,hrf⟩;obtain⟨d0,d1,d2,d3,d4,d5⟩:=hE2.c6;refine bodyPost_ret (v:= .tuple #[I 0,.agg #[I 0,I 0,I 0,I 0,I 0,I 0],I 1]) ?_ rfl ?_
 ·exact c117
 ·exact hR'.out _ _ ⟨rfl,hrf.mono HKK.out,hkf⟩):p:=h
theorem c179 (h:p:=by
 have zz79:=PLift.up @c464;exact c461):p:=h
theorem c180 (h:p:=by
 subst hpo;clear HW hk1 hfl0;have hc9:=(hS1).b0;obtain⟨y0,y1,y2,y3,y4,y5,y6,y7,y8,y9⟩:=hc9.c10;clear hc9;have hz9:=(hS1).b4;unfold st0 at hz9;obtain⟨z0,z1,z2,z3,z4,z5,z6,z7,z8,z9⟩:=hz9.c10;have f:=hz9.free;clear hz9;have HS1:=hid hS1;have HBB:=hid hBB;clear hS1 hBB
 go_upto_region 3 with fail
 go_region
 iterate 2 (first|go_values|go_skip|go_guarded|go_step|go_upon|go_back)
 go_step
 have hE:=(blk_out10 (HS1.out).b4 rfl (.slice A cs.length cp) (.slice (some ⟨b0,o0,none⟩) segs.length cp2) (I wt) (J wv) (I u0) (I u1) (I u2) (I u3) (I u4) (I u5)).drew;have hkk:=(keeps_out10 (b:=B+1+1+1+1) (HS1.out).kp (fun h=>by have h:B+1+1+1+1<B:=h;omega) (.slice A cs.length cp) (.slice (some ⟨b0,o0,none⟩) segs.length cp2) (I wt) (J wv) (I u0) (I u1) (I u2) (I u3) (I u4) (I u5)).drew
 have hkn:=(keeps_out10 (K:=(· ≠B+1+1+1+1)) (b:=B+1+1+1+1) (Keeps.refl _ w1) (fun h=>h rfl) (.slice A cs.length cp) (.slice (some ⟨b0,o0,none⟩) segs.length cp2) (I wt) (J wv) (I u0) (I u1) (I u2) (I u3) (I u4) (I u5)).drew;clear y0 y1 y2 y3 y4 y5 y6 y7 y8 y9 z0 z1 z2 z3 z4 z5 z6 z7 z8 z9 f;generalize ((((((((((w1.setCell ⟨B+1+1+1+1,0,none⟩ (.slice A cs.length cp)).setCell ⟨B+1+1+1+1,1,none⟩ (.slice (some ⟨b0,o0,none⟩) segs.length cp2)).setCell ⟨B+1+1+1+1,2,none⟩ (I wt)).setCell ⟨B+1+1+1+1,3,none⟩ (J wv)).setCell ⟨B+1+1+1+1,4,none⟩ (I u0)).setCell ⟨B+1+1+1+1,5,none⟩ (I u1)).setCell ⟨B+1+1+1+1,6,none⟩ (I u2)).setCell ⟨B+1+1+1+1,7,none⟩ (I u3)).setCell ⟨B+1+1+1+1,8,none⟩ (I u4)).setCell ⟨B+1+1+1+1,9,none⟩ (I u5)).drew=WZ at*
 obtain⟨d0,d1,d2,d3,d4,d5,d6,d7,d8,d9⟩:=hE.c10;refine bodyPost_ret (v:= .tuple #[I 4,.agg #[.slice A cs.length cp,.slice (some ⟨b0,o0,none⟩) segs.length cp2,I wt,J wv,I u0,I u1,I u2,I u3,I u4,I u5]]) ?_ rfl ?_
 ·exact c88
 ·exact c92):p:=h
theorem c181 (h:p:=by
 have zz81:=PLift.up @c470;exact c468):p:=h
theorem c182 (h:p:=by
 have y1:w14.cell? ⟨X,27,none⟩=some (I t'):=(hby.cell 27).trans (x_get26 1 _ rfl);have y2:w14.cell? ⟨X,28,none⟩=some (J v'):=(hby.cell 28).trans (x_get26 2 _ rfl);have y3:w14.cell? ⟨X,29,none⟩=some (I x0):=(hby.cell 29).trans (x_get26 3 _ rfl);have y4:w14.cell? ⟨X,30,none⟩=some (I x1):=(hby.cell 30).trans (x_get26 4 _ rfl);have y5:w14.cell? ⟨X,31,none⟩=some (I x2):=(hby.cell 31).trans (x_get26 5 _ rfl)
 have y6:w14.cell? ⟨X,32,none⟩=some (I x3):=(hby.cell 32).trans (x_get26 6 _ rfl);have y7:w14.cell? ⟨X,33,none⟩=some (I x4):=(hby.cell 33).trans (x_get26 7 _ rfl);have y8:w14.cell? ⟨X,34,none⟩=some (I x5):=(hby.cell 34).trans (x_get26 8 _ rfl);have z0:w14.cell? ⟨X,35,none⟩=some (.slice A3 cs'.length c3):=(hby.cell 35).trans (x_get35 0 _ rfl);have z1:w14.cell? ⟨X,36,none⟩=some (.slice A4 segs'.length c4):=(hby.cell 36).trans (x_get35 1 _ rfl)
 have z2:w14.cell? ⟨X,37,none⟩=some (I t'):=(hby.cell 37).trans (x_get35 2 _ rfl);have z3:w14.cell? ⟨X,38,none⟩=some (J v'):=(hby.cell 38).trans (x_get35 3 _ rfl);have z4:w14.cell? ⟨X,39,none⟩=some (I x0):=(hby.cell 39).trans (x_get35 4 _ rfl);have z5:w14.cell? ⟨X,40,none⟩=some (I x1):=(hby.cell 40).trans (x_get35 5 _ rfl);have z6:w14.cell? ⟨X,41,none⟩=some (I x2):=(hby.cell 41).trans (x_get35 6 _ rfl)
 have z7:w14.cell? ⟨X,42,none⟩=some (I x3):=(hby.cell 42).trans (x_get35 7 _ rfl);have z8:w14.cell? ⟨X,43,none⟩=some (I x4):=(hby.cell 43).trans (x_get35 8 _ rfl);have z9:w14.cell? ⟨X,44,none⟩=some (I x5):=(hby.cell 44).trans (x_get35 9 _ rfl);have hXw14:X<w14.heap.size:=hby.lt;exact zz13.down):p:=h
theorem c183 (h:p:=by
 have HSS:=hid (show∀w':World,Keeps (· <w14.heap.size) w14 w'→(d25_20 w' X (.pointer (some ⟨m,0,none⟩)) (.slice A9 segs'.length c9) (I t') (J v') (I x0) (I x1) (I x2) (I x3) (I x4) (I x5) (.slice A3 cs'.length c3) (.slice A4 segs'.length c4) (I t') (J v') (I x0) (I x1) (I x2) (I x3) (I x4) (I x5))from by
  intro w' k;have e0:=fun i=>World.cell?_of_block (a:=⟨X,i,none⟩) (k.block X hXw14);exact⟨(e0 25).trans k25,(e0 26).trans y0,(e0 27).trans y1,(e0 28).trans y2,(e0 29).trans y3,(e0 30).trans y4,(e0 31).trans y5,(e0 32).trans y6,(e0 33).trans y7,(e0 34).trans y8,(e0 35).trans z0,(e0 36).trans z1,(e0 37).trans z2,(e0 38).trans z3,(e0 39).trans z4,(e0 40).trans z5,(e0 41).trans z6,(e0 42).trans z7,(e0 43).trans z8,(e0 44).trans z9⟩)
 have hsAl:SlAt w14 (· <w14.heap.size) 3 (.slice A9 segs'.length c9) segs'.length (segs'.flatMap SegM.cells):=hsA.mono fun b hb=>by rcases hb with h|h;(have:=Hnwc.out b h;omega);(show b<w14.heap.size;omega)
 have zz95:=PLift.up @c511;exact c510):p:=h
theorem c184 (h:p:=by
 have HSS:=hid (show∀w':World,Keeps (· <w14.heap.size) w14 w'→(d25_20 w' X (.pointer (some ⟨m,0,none⟩)) (.slice SA segs'.length sc) (I t') (J v') (I x0) (I x1) (I x2) (I x3) (I x4) (I x5) (.slice A3 cs'.length c3) (.slice A4 segs'.length c4) (I t') (J v') (I x0) (I x1) (I x2) (I x3) (I x4) (I x5))from by
  intro w' k;have e0:=fun i=>World.cell?_of_block (a:=⟨X,i,none⟩) (k.block X hXw14);exact⟨(e0 25).trans k25,(e0 26).trans y0,(e0 27).trans y1,(e0 28).trans y2,(e0 29).trans y3,(e0 30).trans y4,(e0 31).trans y5,(e0 32).trans y6,(e0 33).trans y7,(e0 34).trans y8,(e0 35).trans z0,(e0 36).trans z1,(e0 37).trans z2,(e0 38).trans z3,(e0 39).trans z4,(e0 40).trans z5,(e0 41).trans z6,(e0 42).trans z7,(e0 43).trans z8,(e0 44).trans z9⟩)
 have hsAl:SlAt w14 (· <w14.heap.size) 3 (.slice SA segs'.length sc) segs'.length (segs'.flatMap SegM.cells):=hsA.mono fun b hb=>by rcases hb with h|h;(have:=Hnwc.out b h;omega);(show b<w14.heap.size;omega)
 have zz95:=PLift.up @c512;exact c510):p:=h
theorem c185 (h:p:=by
 refine wpAnyH_take (i:=0) (oi:=_) (v:=?vr0) rfl (by kernel_rfl) (by kernel_rfl) (by kernel_rfl) (fun _ _ _ h=>h) (Or.inl ⟨by rfl,?yr0⟩) (by assumption) ?qr0
 case yr0=>(intro w hSw;(try dsimp only at hSw);(try obtain⟨s0,s1,s2⟩:=hSw);go_simp;try with_reducible rfl)
 simp only[Act.put,List.setIfInBounds_toArray,List.set_cons_zero,List.set_cons_succ];refine wpAnyH_take (i:=1) (oi:=_) (v:=?vr1) rfl (by kernel_rfl) (by kernel_rfl) (by kernel_rfl) (fun _ _ _ h=>h) (Or.inl ⟨by rfl,?yr1⟩) (by assumption) ?qr1
 case yr1=>(intro w hSw;(try dsimp only at hSw);(try obtain⟨s0,s1,s2⟩:=hSw);go_simp;try with_reducible rfl)
 simp only[Act.put,List.setIfInBounds_toArray,List.set_cons_zero,List.set_cons_succ];refine wpAnyH_take (i:=2) (oi:=_) (v:=?vr2) rfl (by kernel_rfl) (by kernel_rfl) (by kernel_rfl) (fun _ _ _ h=>h) (Or.inl ⟨by rfl,?yr2⟩) (by assumption) ?qr2
 case yr2=>(intro w hSw;(try dsimp only at hSw);(try obtain⟨s0,s1,s2⟩:=hSw);go_simp;try with_reducible rfl)
 simp only[Act.put,List.setIfInBounds_toArray,List.set_cons_zero,List.set_cons_succ];refine wpAnyH_take (i:=3) (oi:=_) (v:=?vr3) rfl (by kernel_rfl) (by kernel_rfl) (by kernel_rfl) (fun _ _ _ h=>h) (Or.inl ⟨by rfl,?yr3⟩) (by assumption) ?qr3
 case yr3=>(intro w hSw;(try dsimp only at hSw);(try obtain⟨s0,s1,s2⟩:=hSw);go_simp;try with_reducible rfl)
 simp only[Act.put,List.setIfInBounds_toArray,List.set_cons_zero,List.set_cons_succ];exact zz14.down):p:=h
theorem c186 (h:p:=by
 refine wpAnyH_ready (rs:=[4]) (by kernel_rfl) (by simp) ?_
 refine AllReadyH.cons (o:=_) rfl (fun K hK=>?_) AllReadyH.nil
 go_simp
 refine(pack_cells tk (by omega) _).mono ?_
 rintro e w5 ⟨rfl,_,hk5⟩;have hk6:Keeps (· <tb+1) W2 w5:=((Keeps.refl (· <W2.heap.size) _).drew.trans hk5).mono fun b hb=>by omega
 obtain⟨hq1,hq2,hq3⟩:=Hfin.out _ hk6;have x4:=hq1.cell 4;have x0:=hq2.cell 0;simp only[List.getElem?_cons_zero,List.getElem?_cons_succ]at x4 x0;have hss:hq1.free 4=hq1.free 4:=rfl;have hfz:=hq1.free 4;clear hss hk5;have Hk6:=hid hk6;clear hk6
 go_wp2_with fail
 refine hK.out _ _ ⟨x4,x0⟩ (fun hHeld=>?_);clear hK K
 (try simp only[Act.put,List.setIfInBounds_toArray,List.set_cons_zero,List.set_cons_succ])
 have hnn:0≤(((tk.size+3)/4:Nat):Int)∧(((tk.size+3)/4:Nat):Int)≤300:=by omega
 obtain⟨hn0,hn1⟩:=hnn;generalize hcc:(((tk.size+3)/4:Nat))=cc at*;have HCC:=hid hcc;clear hcc;refine wpAnyH_take (i:=5) (oi:=_) (v:=?vr5) rfl (by kernel_rfl) (by kernel_rfl) (by kernel_rfl) (fun _ _ _ h=>h) (Or.inl ⟨by rfl,?yr5⟩) (by assumption) ?qr5
 case yr5=>(intro w hSw;(try dsimp only at hSw);(try obtain⟨s0,s1,s2⟩:=hSw);go_simp;try with_reducible rfl)
 simp only[Act.put,List.setIfInBounds_toArray,List.set_cons_zero,List.set_cons_succ];refine wpAnyH_take (i:=6) (oi:=_) (v:=?vr6) rfl (by kernel_rfl) (by kernel_rfl) (by kernel_rfl) (fun _ _ _ h=>h) (Or.inl ⟨by rfl,?yr6⟩) (by assumption) ?qr6
 case yr6=>(intro w hSw;(try dsimp only at hSw);(try obtain⟨s0,s1,s2⟩:=hSw);go_simp;try with_reducible rfl)
 simp only[Act.put,List.setIfInBounds_toArray,List.set_cons_zero,List.set_cons_succ];refine wpAnyH_take (i:=7) (oi:=_) (v:=?vr7) rfl (by kernel_rfl) (by kernel_rfl) (by kernel_rfl) (fun _ _ _ h=>h) (Or.inl ⟨by rfl,?yr7⟩) (by assumption) ?qr7
 case yr7=>(intro w hSw;(try dsimp only at hSw);(try obtain⟨s0,s1,s2⟩:=hSw);go_simp;try with_reducible rfl)
 simp only[Act.put,List.setIfInBounds_toArray,List.set_cons_zero,List.set_cons_succ];refine wpAnyH_done (by kernel_rfl) ?_ _
 simp only[Behind,List.length_cons,List.length_nil,Nat.reduceAdd,Nat.reduceSub];have hTr:(fun _:World=>True) w5:=trivial;refine wpAnyH_take (i:=8) (oi:=_) (v:=?vr8) rfl (by kernel_rfl) (by kernel_rfl) (by kernel_rfl) (fun _ _ _ h=>h) (Or.inl ⟨by rfl,?yr8⟩) (by assumption) ?qr8
 case yr8=>(intro w hSw;(try dsimp only at hSw);(try obtain⟨s0,s1,s2⟩:=hSw);go_simp;try with_reducible rfl)
 simp only[Act.put,List.setIfInBounds_toArray,List.set_cons_zero,List.set_cons_succ];refine wpAnyH_ready (rs:=[9]) (by kernel_rfl) (by simp) ?_
 refine AllReadyH.cons (o:=_) rfl (fun K hK=>?_) AllReadyH.nil
 go_simp
 refine hK.out _ _ trivial (fun _=>?_);clear hK K
 (try simp only[Act.put,List.setIfInBounds_toArray,List.set_cons_zero,List.set_cons_succ])
 refine wpAnyH_done (by kernel_rfl) ?_ _
 have hwr1:IntKind.i64.wrap (2+(cc:Int))=2+(cc:Int):=IntWalk.i64_in _ (by omega)
 have hwr2:IntKind.i64.wrap (m4+(2+(cc:Int)))=m4+(2+(cc:Int)):=IntWalk.i64_in _ (by omega)
 rw[hwr1,hwr2];clear hwr1 hwr2;obtain⟨hq1,hq2,hq3⟩:=Hfin.out _ Hk6.out;have hMx:Blk (w5.setCell ⟨B+1+1,4,none⟩ (I (m4+(2+(cc:Int))))) (B+1+1) [I m0,I m1,I m2,I m3,I (m4+(2+(cc:Int))),I m5]:=hq1.set 4 _;have hBt:Blk (w5.setCell ⟨B+1+1,4,none⟩ (I (m4+(2+(cc:Int))))) tb [.string tk,I 0,I tt,I tc]:=hq2.set_ne _ (fun e=>by have e:tb=B+1+1:=e;omega)
 have hKx:=hq3.setCell (p:=⟨B+1+1,4,none⟩) (fun h=>Nat.lt_irrefl _ h) (I (m4+(2+(cc:Int))));generalize w5.setCell ⟨B+1+1,4,none⟩ (I (m4+(2+(cc:Int))))=WX at*;have hnx:needsP p (l.drop (i+1)) (fr+1) ⟨m0+n0,m1+n1,m2+n2,m3+n3,m4+(2+(cc:Int))+n4,m5+n5⟩=res:=by
  exact Hnx.out
 clear hq1 hq2 hq3 x4 x0 hHeld hHeld0 hTr hfz Hfin Hk6 Hnx;have HMx:=hid hMx;have HBt:=hid hBt;have HKx:=hid hKx;have Hnx:=hid hnx;clear hMx hBt hKx hnx;have zz87:=PLift.up @c488;exact c486):p:=h
theorem c187 (h:p:=by
 refine wpAnyH_take (i:=4) (oi:=_) (v:=?vr4) rfl (by kernel_rfl) (by kernel_rfl) (by kernel_rfl) (fun _ _ _ h=>h) (Or.inl ⟨by rfl,?yr4⟩) (by assumption) ?qr4
 case yr4=>(intro w hSw;(try dsimp only at hSw);(try obtain⟨s0,s1,s2⟩:=hSw);go_simp;try with_reducible rfl)
 simp only[Act.put,List.setIfInBounds_toArray,List.set_cons_zero,List.set_cons_succ];refine wpAnyH_take (i:=5) (oi:=_) (v:=?vr5) rfl (by kernel_rfl) (by kernel_rfl) (by kernel_rfl) (fun _ _ _ h=>h) (Or.inl ⟨by rfl,?yr5⟩) (by assumption) ?qr5
 case yr5=>(intro w hSw;(try dsimp only at hSw);(try obtain⟨s0,s1,s2⟩:=hSw);go_simp;try with_reducible rfl)
 simp only[Act.put,List.setIfInBounds_toArray,List.set_cons_zero,List.set_cons_succ];refine wpAnyH_ready (rs:=[6]) (by kernel_rfl) (by simp) ?_
 refine AllReadyH.cons (o:=_) rfl (fun K hK=>?_) AllReadyH.nil
 go_simp
 refine(Hkl3.out _).mono ?_;rintro e w7 ⟨cv,rfl,hNo,hk7⟩;obtain⟨CA,cc9,rfl⟩:=ownB_form hNo
 skip
 have hk7:Keeps (· <w6.heap.size) w6 w7:=(Keeps.refl (· <w6.heap.size) _).drew.trans hk7;have hS7:=HS6.out.calls hk7;have hM7:=HM6.out.keep hk7 HM6.out.lt;have hK7:=HK6.out.trans (hk7.mono fun b hb=>by have hb:b<MB:=hb;omega)
 have hsz7:=hk7.size;have hm:Blk w7 MB [I x0,I x1,I x2,I x3,I x4,I x5]:=hM7;have x4c:=hm.cell 4;simp only[List.getElem?_cons_zero,List.getElem?_cons_succ]at x4c;have a0:=(World.cell?_of_block (a:=⟨kb,ko+i,none⟩) (hk7.block kb (by omega))).trans a0
 have a1:=(World.cell?_of_block (a:=⟨nb,no+i,none⟩) (hk7.block nb (by omega))).trans a1
 have hfz:=hm.free 4;clear hm hk7 hNo hHeld Hkl3;have HS7:=hid hS7;have HM7:=hid hM7;have HK7:=hid hK7;clear hS7 hM7 hK7
 go_wp2_with fail
 refine hK.out _ _ ⟨x4c,a0⟩ (fun hHeld=>?_);clear hK K
 (try simp only[Act.put,List.setIfInBounds_toArray,List.set_cons_zero,List.set_cons_succ])
 have hpl:((packC (bsL yk)).length:Int)=(((yk.size+3)/4:Nat):Int):=by rw[packC_len,bsL_len]
 have hnn:0≤(((yk.size+3)/4:Nat):Int)∧(((yk.size+3)/4:Nat):Int)≤300:=by omega
 rw[←hpl]at hnn;have hnx:=Hnx.out;rw[←hpl]at hnx;clear Hnx hpl;generalize (packC (bsL yk)).length=cc at*;obtain⟨hn0,hn1⟩:=hnn;have Hnx:=hid hnx;clear hnx;refine wpAnyH_take (i:=7) (oi:=_) (v:=?vr7) rfl (by kernel_rfl) (by kernel_rfl) (by kernel_rfl) (fun _ _ _ h=>h) (Or.inl ⟨by rfl,?yr7⟩) (by assumption) ?qr7
 case yr7=>(intro w hSw;(try dsimp only at hSw);(try obtain⟨s0,s1,s2⟩:=hSw);go_simp;try with_reducible rfl)
 simp only[Act.put,List.setIfInBounds_toArray,List.set_cons_zero,List.set_cons_succ];refine wpAnyH_take (i:=8) (oi:=_) (v:=?vr8) rfl (by kernel_rfl) (by kernel_rfl) (by kernel_rfl) (fun _ _ _ h=>h) (Or.inl ⟨by rfl,?yr8⟩) (by assumption) ?qr8
 case yr8=>(intro w hSw;(try dsimp only at hSw);(try obtain⟨s0,s1,s2⟩:=hSw);go_simp;try with_reducible rfl)
 simp only[Act.put,List.setIfInBounds_toArray,List.set_cons_zero,List.set_cons_succ];refine wpAnyH_take (i:=9) (oi:=_) (v:=?vr9) rfl (by kernel_rfl) (by kernel_rfl) (by kernel_rfl) (fun _ _ _ h=>h) (Or.inl ⟨by rfl,?yr9⟩) (by assumption) ?qr9
 case yr9=>(intro w hSw;(try dsimp only at hSw);(try obtain⟨s0,s1,s2⟩:=hSw);go_simp;try with_reducible rfl)
 simp only[Act.put,List.setIfInBounds_toArray,List.set_cons_zero,List.set_cons_succ];refine wpAnyH_done (by kernel_rfl) ?_ _
 simp only[Behind,List.length_cons,List.length_nil,Nat.reduceAdd,Nat.reduceSub];have hTr:(fun _:World=>True) w7:=trivial;refine wpAnyH_take (i:=10) (oi:=_) (v:=?vr10) rfl (by kernel_rfl) (by kernel_rfl) (by kernel_rfl) (fun _ _ _ h=>h) (Or.inl ⟨by rfl,?yr10⟩) (by assumption) ?qr10
 case yr10=>(intro w hSw;(try dsimp only at hSw);(try obtain⟨s0,s1,s2⟩:=hSw);go_simp;try with_reducible rfl)
 simp only[Act.put,List.setIfInBounds_toArray,List.set_cons_zero,List.set_cons_succ];refine wpAnyH_ready (rs:=[11]) (by kernel_rfl) (by simp) ?_
 refine AllReadyH.cons (o:=_) rfl (fun K hK=>?_) AllReadyH.nil
 go_simp
 refine hK.out _ _ trivial (fun _=>?_);clear hK K
 (try simp only[Act.put,List.setIfInBounds_toArray,List.set_cons_zero,List.set_cons_succ])
 refine wpAnyH_done (by kernel_rfl) ?_ _
 have hwr1:IntKind.i64.wrap (2+(cc:Int))=2+(cc:Int):=IntWalk.i64_in _ (by omega)
 have hwr2:IntKind.i64.wrap (x4+(2+(cc:Int)))=x4+(2+(cc:Int)):=IntWalk.i64_in _ (by omega)
 rw[hwr1,hwr2];clear hwr1 hwr2;have hM8:Blk (w7.setCell ⟨MB,4,none⟩ (I (x4+(2+(cc:Int))))) MB [I x0,I x1,I x2,I x3,I (x4+(2+(cc:Int))),I x5]:=HM7.out.set 4 _;have hkn:Keeps (· <MB) w7 (w7.setCell ⟨MB,4,none⟩ (I (x4+(2+(cc:Int))))):=(Keeps.refl (· <MB) w7).setCell (p:=⟨MB,4,none⟩) (fun h=>Nat.lt_irrefl MB h) (I (x4+(2+(cc:Int))));have hS8:=HS7.out.keep hkn fun b hb=>by show b<MB;omega
 have hK8:=HK7.out.trans hkn;have a1:=(World.cell?_of_block (a:=⟨nb,no+i,none⟩) (hkn.block nb hnb1)).trans a1;have hsz8:MB<(w7.setCell ⟨MB,4,none⟩ (I (x4+(2+(cc:Int))))).heap.size:=hM8.lt;generalize w7.setCell ⟨MB,4,none⟩ (I (x4+(2+(cc:Int))))=w8 at*;clear hkn HS7 HM7 HK7 x4c a0 hfz hHeld hHeld0 hTr hsz7 hsz6 hszw;have hnx:needsP p (all.drop (i+1)) (fr9+1) ⟨x0+n0,x1+n1,x2+n2,x3+n3,x4+(2+(cc:Int))+n4,x5+n5⟩=(fr,⟨m0,m1,m2,m3,m4,m5⟩):=Hnx.out
 clear Hnx HS6 HM6 HK6;have hpc:=hS8.b2;unfold PlanM.flat at hpc;obtain⟨g0,g1,g2,g3,g4,g5,g6,g7,g8,g9,g10,g11,g12,g13,g14⟩:=hpc.c15;clear hpc;have hlB2:=hS8.b2.lt;have hnbw:nb<w8.heap.size:=by omega
 skip
 have hneed2:=Hneed.out;unfold PlanM.val V6.val at hneed2;dsimp only at hneed2;have HSS:=hid (show∀wa w':World,Keeps (· <w8.heap.size) w8 wa→Keeps (· <wa.heap.size) wa w'→(e0_15 w' (B+1+1) (I p.base.a0) (I p.base.a1) (I p.base.a2) (I p.base.a3) (I p.base.a4) (I p.base.a5) (I p.size.a0) (I p.size.a1) (I p.size.a2) (I p.size.a3) (I p.size.a4) (I p.size.a5) (I p.cells) (I p.slots) (I p.live) (w'.cell? ⟨nb,no+i,none⟩=some (I yc)))∧(¬w'.heap.size=B+1+1∧¬w'.heap.size=nb)from by
  intro wa w' k1 k2;have k:Keeps (· <w8.heap.size) w8 w':=k1.trans (k2.mono fun b hb=>by have:=k1.size;omega)
  have e1:=fun i=>World.cell?_of_block (a:=⟨B+1+1,i,none⟩) (k.block (B+1+1) hlB2);have e2:=World.cell?_of_block (a:=⟨nb,no+i,none⟩) (k.block nb hnbw);have hks:=k.size;exact⟨⟨(e1 0).trans g0,(e1 1).trans g1,(e1 2).trans g2,(e1 3).trans g3,(e1 4).trans g4,(e1 5).trans g5,(e1 6).trans g6,(e1 7).trans g7,(e1 8).trans g8,(e1 9).trans g9,(e1 10).trans g10,(e1 11).trans g11,(e1 12).trans g12,(e1 13).trans g13,(e1 14).trans g14,e2.trans a1⟩,by omega,by omega⟩)
 have HTB:=hid (show∀wa,Keeps (· <w8.heap.size) w8 wa→Z 63 #[(.agg #[I p.base.a0,I p.base.a1,I p.base.a2,I p.base.a3,I p.base.a4,I p.base.a5,I p.size.a0,I p.size.a1,I p.size.a2,I p.size.a3,I p.size.a4,I p.size.a5,I p.cells,I p.slots,I p.live]),I 0,I yc] wa fun e w'=>e= .returned (.agg #[I n0,I n1,I n2,I n3,I n4,I n5])∧Hid (Keeps (· <w8.heap.size) w8 w')∧((e0_15 w' (B+1+1) (I p.base.a0) (I p.base.a1) (I p.base.a2) (I p.base.a3) (I p.base.a4) (I p.base.a5) (I p.size.a0) (I p.size.a1) (I p.size.a2) (I p.size.a3) (I p.size.a4) (I p.size.a5) (I p.cells) (I p.slots) (I p.live) (w'.cell? ⟨nb,no+i,none⟩=some (I yc)))∧(¬w'.heap.size=B+1+1∧¬w'.heap.size=nb))from fun wa h1=>by
  refine(hneed2 wa).mono ?_;rintro e w' ⟨rfl,h4⟩;exact⟨rfl,h1.trans (h4.mono fun b hb=>by have:=h1.size;omega),HSS.out _ _ h1 h4⟩)
 have HTA:=hid (show∀wa,Blk wa w8.heap.size [I 0,I 0,I 0,I 0,I 0,I 0]→Keeps (· <w8.heap.size) w8 wa→Z 63 #[(.agg #[I p.base.a0,I p.base.a1,I p.base.a2,I p.base.a3,I p.base.a4,I p.base.a5,I p.size.a0,I p.size.a1,I p.size.a2,I p.size.a3,I p.size.a4,I p.size.a5,I p.cells,I p.slots,I p.live]),I 0,I yc] wa fun e w'=>e= .returned (.agg #[I n0,I n1,I n2,I n3,I n4,I n5])∧Hid (Blk w' w8.heap.size [I 0,I 0,I 0,I 0,I 0,I 0]∧Keeps (· <w8.heap.size) w8 w')∧(e0_6 w' w8.heap.size (I 0) (I 0) (I 0) (I 0) (I 0) (I 0) (w'.frozen? ⟨w8.heap.size,0,none⟩=false∧w'.frozen? ⟨w8.heap.size,1,none⟩=false∧w'.frozen? ⟨w8.heap.size,2,none⟩=false∧w'.frozen? ⟨w8.heap.size,3,none⟩=false∧w'.frozen? ⟨w8.heap.size,4,none⟩=false∧w'.frozen? ⟨w8.heap.size,5,none⟩=false))∧((e0_15 w' (B+1+1) (I p.base.a0) (I p.base.a1) (I p.base.a2) (I p.base.a3) (I p.base.a4) (I p.base.a5) (I p.size.a0) (I p.size.a1) (I p.size.a2) (I p.size.a3) (I p.size.a4) (I p.size.a5) (I p.cells) (I p.slots) (I p.live) (w'.cell? ⟨nb,no+i,none⟩=some (I yc)))∧(¬w'.heap.size=B+1+1∧¬w'.heap.size=nb))from fun wa h0 h1=>by
  refine(hneed2 wa).mono ?_;rintro e w' ⟨rfl,h4⟩;have h5:=h0.keep h4 h0.lt;have h6:=h5;obtain⟨z0,z1,z2,z3,z4,z5⟩:=h6.c6;exact⟨rfl,⟨h5,h1.trans (h4.mono fun b hb=>by have:=h1.size;omega)⟩,⟨z0,z1,z2,z3,z4,z5,h5.free 0,h5.free 1,h5.free 2,h5.free 3,h5.free 4,h5.free 5⟩,HSS.out _ _ h1 h4⟩)
 have hneB:¬w8.heap.size=B+1+1:=by omega
 have hneC:¬w8.heap.size=nb:=by omega
 clear hneed2 Hneed;have HS8:=hid hS8;have HM8:=hid hM8;have HK8:=hid hK8;have Hnx:=hid hnx;clear hS8 hM8 hK8 hnx
 go_upto_region 23 with fail
 go_cut[26]from 122 to 128 (fun a wx=>∃NB,a= .pointer (some ⟨NB,0,none⟩)∧w8.heap.size≤NB∧Blk wx NB [I n0,I n1,I n2,I n3,I n4,I n5]∧Keeps (· <w8.heap.size) w8 wx)
 case first=>
  exact c394
 case rest=>
  have zz138:=PLift.up @c667;exact c665):p:=h
theorem c188 (h:p:=by
 have zz145:=PLift.up @c689;exact c688):p:=h
theorem c189 (h:p:=by
 go_loopw[31] (fun kv wx=>∃(k:Nat),kv=I (k:Int)∧k≤6∧Hid (Blk wx B [I docs,I terms,I s0,I s1,I s2,I s3,I book,I room,kk,bb])∧Hid (Blk wx (B+1) [I 0,I 0,I 0,I 0,I 0,I 0,I 0,I 0,I 0,I 0,I 0,I 0,I 0,I 0,I 0])∧Hid (Blk wx (B+1+1) (layK s0 s1 s2 s3 book room k))∧Hid (Keeps (· <B) w wx)) (fun kv _=>6-(intOf kv).toNat)
 case atStart=>exact⟨0,rfl,Nat.zero_le _,HA0,HA1,HA2,HkA⟩
 case round=>
  clear HA0 HA1 HA2 HkA;obtain⟨k,rfl,hk6,HC,HZ,HP,HK⟩:=hrel;have hkc:k=0∨k=1∨k=2∨k=3∨k=4∨k=5∨k=6:=by omega
  clear hk6
  rcases hkc with rfl|rfl|rfl|rfl|rfl|rfl|rfl
  ·exact c5
  ·exact c8
  ·exact c12
  ·exact c20
  ·exact c25
  ·exact c24
  ·skip
   have zz106:=PLift.up @c544;exact c543):p:=h
theorem c190 (h:p:=by
 go_loopw[31] (fun kv wx=>∃(k:Nat),kv=I (k:Int)∧k≤6∧Hid (Blk wx B [I docs,I terms,I s0,I s1,I s2,I s3,I book,I room,kk,bb])∧Hid (Blk wx (B+1) [I 0,I 0,I 0,I 0,I 0,I 0,I 0,I 0,I 0,I 0,I 0,I 0,I 0,I 0,I 0])∧Hid (Blk wx (B+1+1) (layK s0 s1 s2 s3 book room k))∧Hid (Keeps (· <B) w wx)) (fun kv _=>6-(intOf kv).toNat)
 case atStart=>exact⟨0,rfl,Nat.zero_le _,HA0,HA1,HA2,HkA⟩
 case round=>
  clear HA0 HA1 HA2 HkA;obtain⟨k,rfl,hk6,HC,HZ,HP,HK⟩:=hrel;have hkc:k=0∨k=1∨k=2∨k=3∨k=4∨k=5∨k=6:=by omega
  clear hk6
  rcases hkc with rfl|rfl|rfl|rfl|rfl|rfl|rfl
  ·exact c5
  ·exact c8
  ·exact c12
  ·exact c20
  ·exact c25
  ·exact c24
  ·skip
   have zz106:=PLift.up @c545;exact c543):p:=h
theorem c191 (h:p:=by
 have hkB:Keeps (· ≠B) we ((((((we.setCell ⟨B,4,none⟩ (I u2.a0)).setCell ⟨B,5,none⟩ (I u2.a1)).setCell ⟨B,6,none⟩ (I u2.a2)).setCell ⟨B,7,none⟩ (I u2.a3)).setCell ⟨B,8,none⟩ (I u2.a4)).setCell ⟨B,9,none⟩ (I u2.a5)):=(((((((Keeps.refl _ _).setCell (p:=⟨B,4,none⟩) (fun h=>h rfl) (I u2.a0)).setCell (p:=⟨B,5,none⟩) (fun h=>h rfl) (I u2.a1)).setCell (p:=⟨B,6,none⟩) (fun h=>h rfl) (I u2.a2)).setCell (p:=⟨B,7,none⟩) (fun h=>h rfl) (I u2.a3)).setCell (p:=⟨B,8,none⟩) (fun h=>h rfl) (I u2.a4)).setCell (p:=⟨B,9,none⟩) (fun h=>h rfl) (I u2.a5))
 have hN8:=HN7.out.keep hkB (by show NP≠B;omega)
 clear hkB HN7 HU7 HS7;have HS8:=hid hS8;have HN8:=hid hN8;clear hS8 hN8
 go_upto_region 13 with fail
 generalize ((((((we.setCell ⟨B,4,none⟩ (I u2.a0)).setCell ⟨B,5,none⟩ (I u2.a1)).setCell ⟨B,6,none⟩ (I u2.a2)).setCell ⟨B,7,none⟩ (I u2.a3)).setCell ⟨B,8,none⟩ (I u2.a4)).setCell ⟨B,9,none⟩ (I u2.a5))=wf at*;clear y0 y1 y2 y3 y4 y5 y6 y7 y8 y9 f mm0 mm1 mm2 mm3 mm4 mm5;have hc:=HS8.out.b0;obtain⟨y0,y1,y2,y3,y4,y5,y6,y7,y8,y9⟩:=hc.c10;have hz:=HS8.out.b3;unfold st0 at hz
 obtain⟨z0,z1,z2,z3,z4,z5,z6,z7,z8,z9⟩:=hz.c10;have f:=hz.free;clear hc hz
 iterate 10 (first|go_values|go_skip|go_guarded|go_step|go_upon|go_back)
 go_step
 exact zz16.down):p:=h
theorem c192 (h:p:=by
 have hE:=blk_out10 HS8.out.b3 rfl (.slice (some ⟨NP,0,none⟩) cs1.length cs1.length) (.slice A2 n2 c2) (I wt) (J wv) (I u2.a0) (I u2.a1) (I u2.a2) (I u2.a3) (I u2.a4) (I u2.a5);have hkk:=keeps_out10 (b:=B+1+1+1) HS8.out.kp (fun h=>by have h:B+1+1+1<B:=h;omega) (.slice (some ⟨NP,0,none⟩) cs1.length cs1.length) (.slice A2 n2 c2) (I wt) (J wv) (I u2.a0) (I u2.a1) (I u2.a2) (I u2.a3) (I u2.a4) (I u2.a5)
 have hkn:=keeps_out10 (K:=(· ≠B+1+1+1)) (b:=B+1+1+1) (Keeps.refl _ wf) (fun h=>h rfl) (.slice (some ⟨NP,0,none⟩) cs1.length cs1.length) (.slice A2 n2 c2) (I wt) (J wv) (I u2.a0) (I u2.a1) (I u2.a2) (I u2.a3) (I u2.a4) (I u2.a5);generalize ((((((((((wf.setCell ⟨B+1+1+1,0,none⟩ (.slice (some ⟨NP,0,none⟩) cs1.length cs1.length)).setCell ⟨B+1+1+1,1,none⟩ (.slice A2 n2 c2)).setCell ⟨B+1+1+1,2,none⟩ (I wt)).setCell ⟨B+1+1+1,3,none⟩ (J wv)).setCell ⟨B+1+1+1,4,none⟩ (I u2.a0)).setCell ⟨B+1+1+1,5,none⟩ (I u2.a1)).setCell ⟨B+1+1+1,6,none⟩ (I u2.a2)).setCell ⟨B+1+1+1,7,none⟩ (I u2.a3)).setCell ⟨B+1+1+1,8,none⟩ (I u2.a4)).setCell ⟨B+1+1+1,9,none⟩ (I u2.a5))=WZ at*
 obtain⟨d0,d1,d2,d3,d4,d5,d6,d7,d8,d9⟩:=hE.c10;refine bodyPost_ret (v:= .agg #[.slice (some ⟨NP,0,none⟩) cs1.length cs1.length,.slice A2 n2 c2,I wt,J wv,I u2.a0,I u2.a1,I u2.a2,I u2.a3,I u2.a4,I u2.a5]) ?_ rfl ?_
 ·simp[results,Tryz.results65,go_sem,d0,d1,d2,d3,d4,d5,d6,d7,d8,d9]
 ·exact hR'.out _ _ ⟨NP,rfl,by omega,HN8.out.keep hkn (by show NP≠B+1+1+1;omega),hkk⟩):p:=h
theorem c193 (h:p:=by
 have hE:=blk_out10 HS8.out.b3 rfl (.slice (some ⟨NP,0,none⟩) cs.length cs.length) (.slice A2 n2 c2) (I wt) (J wv) (I u2.a0) (I u2.a1) (I u2.a2) (I u2.a3) (I u2.a4) (I u2.a5);have hkk:=keeps_out10 (b:=B+1+1+1) HS8.out.kp (fun h=>by have h:B+1+1+1<B:=h;omega) (.slice (some ⟨NP,0,none⟩) cs.length cs.length) (.slice A2 n2 c2) (I wt) (J wv) (I u2.a0) (I u2.a1) (I u2.a2) (I u2.a3) (I u2.a4) (I u2.a5)
 have hkn:=keeps_out10 (K:=(· ≠B+1+1+1)) (b:=B+1+1+1) (Keeps.refl _ wf) (fun h=>h rfl) (.slice (some ⟨NP,0,none⟩) cs.length cs.length) (.slice A2 n2 c2) (I wt) (J wv) (I u2.a0) (I u2.a1) (I u2.a2) (I u2.a3) (I u2.a4) (I u2.a5);generalize ((((((((((wf.setCell ⟨B+1+1+1,0,none⟩ (.slice (some ⟨NP,0,none⟩) cs.length cs.length)).setCell ⟨B+1+1+1,1,none⟩ (.slice A2 n2 c2)).setCell ⟨B+1+1+1,2,none⟩ (I wt)).setCell ⟨B+1+1+1,3,none⟩ (J wv)).setCell ⟨B+1+1+1,4,none⟩ (I u2.a0)).setCell ⟨B+1+1+1,5,none⟩ (I u2.a1)).setCell ⟨B+1+1+1,6,none⟩ (I u2.a2)).setCell ⟨B+1+1+1,7,none⟩ (I u2.a3)).setCell ⟨B+1+1+1,8,none⟩ (I u2.a4)).setCell ⟨B+1+1+1,9,none⟩ (I u2.a5))=WZ at*
 obtain⟨d0,d1,d2,d3,d4,d5,d6,d7,d8,d9⟩:=hE.c10;refine bodyPost_ret (v:= .agg #[.slice (some ⟨NP,0,none⟩) cs.length cs.length,.slice A2 n2 c2,I wt,J wv,I u2.a0,I u2.a1,I u2.a2,I u2.a3,I u2.a4,I u2.a5]) ?_ rfl ?_
 ·simp[results,Tryz.results65,go_sem,d0,d1,d2,d3,d4,d5,d6,d7,d8,d9]
 ·exact hR'.out _ _ ⟨NP,rfl,by omega,HN8.out.keep hkn (by show NP≠B+1+1+1;omega),hkk⟩):p:=h
theorem c194 (h:p:=by
 have HT:=hid hT;have Q:=hid q;clear hT q;have zz80:=PLift.up @c467;exact c465):p:=h
theorem c195 (h:p:=by
 go_loopw[31] (fun kv wx=>∃(k:Nat),kv=I (k:Int)∧k≤0∧Hid (Blk wx B [I docs,I terms,I s0,I s1,I s2,I s3,I book,I room,kk,bb])∧Hid (Blk wx (B+1) [I 0,I 0,I 0,I 0,I 0,I 0,I 0,I 0,I 0,I 0,I 0,I 0,I 0,I 0,I 0])∧Hid (Blk wx (B+1+1) (layK s0 s1 s2 s3 book room k))∧Hid (Keeps (· <B) w wx)) (fun kv _=>0-(intOf kv).toNat)
 case atStart=>exact⟨0,rfl,Nat.zero_le _,HA0,HA1,HA2,HkA⟩
 case round=>
  clear HA0 HA1 HA2 HkA;obtain⟨k,rfl,hk6,HC,HZ,HP,HK⟩:=hrel;obtain rfl:k=0:=by omega
  ·skip
   have Hs:=hid (fun W=>between_no s0 0 512 W Q.out);exact c7):p:=h
theorem c196 (h:p:=by
 go_loopw[31] (fun kv wx=>∃(k:Nat),kv=I (k:Int)∧k≤1∧Hid (Blk wx B [I docs,I terms,I s0,I s1,I s2,I s3,I book,I room,kk,bb])∧Hid (Blk wx (B+1) [I 0,I 0,I 0,I 0,I 0,I 0,I 0,I 0,I 0,I 0,I 0,I 0,I 0,I 0,I 0])∧Hid (Blk wx (B+1+1) (layK s0 s1 s2 s3 book room k))∧Hid (Keeps (· <B) w wx)) (fun kv _=>1-(intOf kv).toNat)
 case atStart=>exact⟨0,rfl,Nat.zero_le _,HA0,HA1,HA2,HkA⟩
 case round=>
  clear HA0 HA1 HA2 HkA;obtain⟨k,rfl,hk6,HC,HZ,HP,HK⟩:=hrel;have hkc:k=0∨k=1:=by omega
  clear hk6
  rcases hkc with rfl|rfl
  ·exact c5
  ·skip
   have Hs:=hid (fun W=>between_no s1 0 512 W Q.out);exact c7):p:=h
theorem c197 (h:p:=by
 go_loopw[31] (fun kv wx=>∃(k:Nat),kv=I (k:Int)∧k≤2∧Hid (Blk wx B [I docs,I terms,I s0,I s1,I s2,I s3,I book,I room,kk,bb])∧Hid (Blk wx (B+1) [I 0,I 0,I 0,I 0,I 0,I 0,I 0,I 0,I 0,I 0,I 0,I 0,I 0,I 0,I 0])∧Hid (Blk wx (B+1+1) (layK s0 s1 s2 s3 book room k))∧Hid (Keeps (· <B) w wx)) (fun kv _=>2-(intOf kv).toNat)
 case atStart=>exact⟨0,rfl,Nat.zero_le _,HA0,HA1,HA2,HkA⟩
 case round=>
  clear HA0 HA1 HA2 HkA;obtain⟨k,rfl,hk6,HC,HZ,HP,HK⟩:=hrel;have hkc:k=0∨k=1∨k=2:=by omega
  clear hk6
  rcases hkc with rfl|rfl|rfl
  ·exact c5
  ·exact c8
  ·skip
   have Hs:=hid (fun W=>between_no s2 0 512 W Q.out);exact c7):p:=h
theorem c198 (h:p:=by
 go_loopw[31] (fun kv wx=>∃(k:Nat),kv=I (k:Int)∧k≤3∧Hid (Blk wx B [I docs,I terms,I s0,I s1,I s2,I s3,I book,I room,kk,bb])∧Hid (Blk wx (B+1) [I 0,I 0,I 0,I 0,I 0,I 0,I 0,I 0,I 0,I 0,I 0,I 0,I 0,I 0,I 0])∧Hid (Blk wx (B+1+1) (layK s0 s1 s2 s3 book room k))∧Hid (Keeps (· <B) w wx)) (fun kv _=>3-(intOf kv).toNat)
 case atStart=>exact⟨0,rfl,Nat.zero_le _,HA0,HA1,HA2,HkA⟩
 case round=>
  clear HA0 HA1 HA2 HkA;obtain⟨k,rfl,hk6,HC,HZ,HP,HK⟩:=hrel;have hkc:k=0∨k=1∨k=2∨k=3:=by omega
  clear hk6
  rcases hkc with rfl|rfl|rfl|rfl
  ·exact c5
  ·exact c8
  ·exact c12
  ·skip
   have Hs:=hid (fun W=>between_no s3 0 512 W Q.out);exact c7):p:=h
theorem c199 (h:p:=by
 refine calls_hide fun R' hR'=>?_;unfold PlanM.val V6.val
 go_enter Tryz.func81,Tryz.ntmps81
 go_wp2_with fail
 refine calls_gen (fun W=>Blk W w.heap.size [I p.base.a0,I p.base.a1,I p.base.a2,I p.base.a3,I p.base.a4,I p.base.a5,I p.size.a0,I p.size.a1,I p.size.a2,I p.size.a3,I p.size.a4,I p.size.a5,I p.cells,I p.slots,I p.live]∧
  Blk W (w.heap.size+1) [I u.a0,I u.a1,I u.a2,I u.a3,I u.a4,I u.a5]∧Blk W (w.heap.size+1+1) [I 0,I 0,I 0,I 0,I 0,I 0]∧Keeps (· <w.heap.size) w W) ⟨?_,?_,?_,?_⟩ ?_
 ·exact bA
 ·exact bA
 ·exact bA
 ·exact kA
 rintro W ⟨hB0,hB1,hB2,hk⟩;refine(pack_cells t (by omega) _).mono ?_
 rintro e w1 ⟨rfl,hBc,hk1⟩;have hC0:=hB0.keep hk1 hB0.lt;have hC1:=hB1.keep hk1 hB1.lt;have hC2:=hB2.keep hk1 hB2.lt;have hkk:=hk.trans (hk1.mono fun b hb=>by have:=hB0.lt;omega)
 have hbc:=hB2.lt;generalize W.heap.size=bc at*;clear hB0 hB1 hB2 hk hk1;obtain⟨c0,c1,c2,c3,c4,c5,c6,c7,c8,c9,c10,c11,c12,c13,c14⟩:=hC0.c15;obtain⟨d0,d1,d2,d3,d4,d5⟩:=hC1.c6
 go_wp2_with fail
 exact zz18.down):p:=h
theorem c200 (h:p:=by
 refine(take_full p u _ _ (by omega) (by omega) h0 hu (by omega) h3).mono ?_
 rintro e w2 ⟨rfl,hk2⟩;unfold V6.val;clear c0 c1 c2 c3 c4 c5 c6 c7 c8 c9 c10 c11 c12 c13 c14 d0 d1 d2 d3 d4 d5;have l1:=hC1.lt;have l2:=hC2.lt;have l0:=hC0.lt;have hD1:=hC1.keep hk2 l1;have hD2:=hC2.keep hk2 l2;have hkk2:=hkk.trans (hk2.mono fun b hb=>by omega)
 have hz2:=hk2.size;clear hC0 hC1 hC2 hBc hkk hk2;obtain⟨d0,d1,d2,d3,d4,d5⟩:=hD1.c6;obtain⟨z0,z1,z2,z3,z4,z5⟩:=hD2.c6;have f1:=hD1.free;have f2:=hD2.free
 go_wp2_with fail
 refine wp_gen (fun W=>Blk W (w.heap.size+1) [I 0,I 0,I 0,I 0,I 0,I 0]∧Blk W (w.heap.size+1+1) [I 0,I 0,I 0,I 0,I 0,I 0]∧Keeps (· <w.heap.size) w W) ⟨?_,?_,?_⟩ ?_
 ·exact c47
 ·exact bA
 ·exact kA
 clear hD1 hD2 hkk2 d0 d1 d2 d3 d4 d5 z0 z1 z2 z3 z4 z5 f1 f2;rintro W2 ⟨hD1,hD2,hkk2⟩;obtain⟨d0,d1,d2,d3,d4,d5⟩:=hD1.c6;obtain⟨z0,z1,z2,z3,z4,z5⟩:=hD2.c6;have f2:=hD2.free
 go_region
 go_wp2_with fail
 refine bp_gen (fun W=>Blk W (w.heap.size+1+1) [I 0,I 0,I 0,I 0,I 0,I 0]∧Keeps (· <w.heap.size) w W) ⟨?_,?_⟩ ?_
 ·first|with_reducible exact Blk.set6 hD2 _ _ _ _ _ _ (by simp)|with_reducible exact(Blk.set6 hD2 _ _ _ _ _ _ (by simp)).drew
 ·exact kA
 clear hD1 hD2 hkk2 d0 d1 d2 d3 d4 d5 z0 z1 z2 z3 z4 z5 f2;rintro W3 ⟨hD2,hkk2⟩;obtain⟨d0,d1,d2,d3,d4,d5⟩:=hD2.c6;refine bodyPost_ret (v:= .tuple #[I 0,.agg #[I 0,I 0,I 0,I 0,I 0,I 0],I 3]) ?_ rfl ?_
 ·simp[results,Tryz.results81,go_sem,d0,d1,d2,d3,d4,d5]
 ·exact hR'.out _ _ ⟨rfl,H.out.below hkk2,hkk2.mono H.out.lt⟩):p:=h
theorem c201 (h:p:=by
 refine(take_book p u _ _ (by omega) h0 (by omega) h3 ⟨b0,b1⟩).mono ?_
 rintro e w2 ⟨rfl,hk2⟩;unfold V6.val;clear c0 c1 c2 c3 c4 c5 c6 c7 c8 c9 c10 c11 c12 c13 c14 d0 d1 d2 d3 d4 d5;have l1:=hC1.lt;have l2:=hC2.lt;have l0:=hC0.lt;have lc:=hBc.lt;have hD1:=hC1.keep hk2 l1;have hD2:=hC2.keep hk2 l2;have hDc:=hBc.keep hk2 lc;have hkk2:=hkk.trans (hk2.mono fun b hb=>by omega)
 have hz2:=hk2.size;clear hC0 hC1 hC2 hBc hkk hk2;rw[HC.out]at hDc;generalize hU:u.a4+(2+((t.size:Int)+3)/4)=u4 at*;generalize hA:p.base.a4+u.a4=ad at*;have ha0:0≤ad∧ad≤131072:=by omega
 obtain⟨a0,a1⟩:=ha0;have HU:=hid hU;have HA:=hid hA;clear hU hA;obtain⟨d0,d1,d2,d3,d4,d5⟩:=hD1.c6;have f1:=hD1.free
 go_wp2_with fail
 refine calls_gen (fun W=>Blk W (w.heap.size+1) [I u.a0,I u.a1,I u.a2,I u.a3,I u4,I u.a5]∧Blk W (w.heap.size+1+1) [I 0,I 0,I 0,I 0,I 0,I 0]∧Blk W bc (C.map (Value.int .u32))∧Keeps (· <w.heap.size) w W) ⟨?_,?_,?_,?_⟩ ?_
 ·exact c47
 ·exact bA
 ·exact bA
 ·exact kA
 clear hD1 hD2 hDc hkk2 d0 d1 d2 d3 d4 d5 f1;rintro W2 ⟨hD1,hD2,hDc,hkk2⟩;have hR2:=H.out.moreB hkk2;have hKK:∀b,K b→(K b∨(w.heap.size≤b∧b<W2.heap.size)):=fun b hb=>Or.inl hb;have hg1:(K (w.heap.size+1)∨(w.heap.size≤w.heap.size+1∧w.heap.size+1<W2.heap.size)):=Or.inr ⟨by omega,hD1.lt⟩
 have hg2:(K (w.heap.size+1+1)∨(w.heap.size≤w.heap.size+1+1∧w.heap.size+1+1<W2.heap.size)):=Or.inr ⟨by omega,hD2.lt⟩
 have hgc:(K bc∨(w.heap.size≤bc∧bc<W2.heap.size)):=Or.inr ⟨by omega,hDc.lt⟩
 have hltw:=H.out.lt;generalize hK1:(fun b=>K b∨(w.heap.size≤b∧b<W2.heap.size))=K1 at*;have hKK':∀b,K b→K1 b:=by rw[←hK1];exact hKK
 have hg1':K1 (w.heap.size+1):=by rw[←hK1];exact hg1
 have hg2':K1 (w.heap.size+1+1):=by rw[←hK1];exact hg2
 have hgc':K1 bc:=by rw[←hK1];exact hgc
 have hkw:Keeps K w W2:=hkk2.mono hltw;clear hKK hg1 hg2 hgc hK1 hkk2 hltw;have HKK':=hid hKK';have Hg1':=hid hg1';have Hg2':=hid hg2';have Hgc':=hid hgc';have Hkw:=hid hkw;have HD1:=hid hD1;have HD2:=hid hD2;have HDc:=hid hDc;clear hKK' hg1' hg2' hgc' hkw hD1 hD2 hDc;refine(step_store hR2 (ad+1) t.size (by unfold U32;omega)).mono ?_
 rintro e w3 ⟨rfl,hr3,hk3⟩;have Hr3:=hid hr3;have Hk3:=hid hk3;clear hr3 hk3;clear hR2
 go_wp2_with fail
 have hresC:((storesD ad (C.drop 0) 0).bind fun _=>Tree.store (s0+sl) ad (.ret ())).exec (s.store (ad+1) t.size)=res:=Hres.out;have HresC:=hid hresC;clear hresC
 go_loopw[45] (fun j wr=>∃(q:Nat) (s3:St),j=I q∧q≤(t.size+3)/4∧RM wr K1 r m c s3∧Keeps K1 W2 wr∧
  ((storesD ad (C.drop q) q).bind fun _=>Tree.store (s0+sl) ad (.ret ())).exec s3=res) (fun j _=>(t.size+3)/4-(intOf j).toNat)
 case atStart=>exact⟨0,_,rfl,Nat.zero_le _,Hr3.out,Hk3.out,HresC.out⟩
 case round=>
  obtain⟨q,s3,rfl,hq,hR3,hK3,hex3⟩:=hrel;have HR3:=hid hR3;have HK3:=hid hK3;clear hR3 hK3
  by_cases hqlt:q<(t.size+3)/4
  ·have hCq:q<C.length:=by rw[Hpl.out];exact hqlt
   have hd:C.drop q=C[q]::C.drop (q+1):=List.drop_eq_getElem_cons hCq;have hcell:wr.cell? ⟨bc,q,none⟩=some (J C[q]):=by
    rw[World.cell?_of_block (a:=⟨bc,q,none⟩) (HK3.out.block bc Hgc'.out),HDc.out.cell,List.getElem?_map,List.getElem?_eq_getElem hCq];rfl
   have zz125:=PLift.up @c625;exact c624
  ·have hqn:C.drop q=[]:=List.drop_of_length_le (by rw[Hpl.out];omega)
   rw[hqn]at hex3;have hfin:((),s3.store (s0+sl) ad)=res:=hex3;clear hex3 hqn;have Hfin:=hid hfin;clear hfin
   go_wp2_with fail
   refine(step_store HR3.out (s0+sl) ad (by unfold U32;omega)).mono ?_
   rintro e w6 ⟨rfl,hr6,hk6⟩;have hk6':=HK3.out.trans hk6;have hE1:=HD1.out.keep hk6' Hg1'.out;have hE2:=HD2.out.keep hk6' Hg2'.out;have hkf:Keeps K w w6:=Hkw.out.trans (hk6'.mono HKK'.out);have hrf:RM w6 K r m c res.2:=by rw[←Hfin.out];exact hr6.mono HKK'.out
   have hKno:∀b,K b→b<w.heap.size:=H.out.lt;have Hkf:=hid hkf;have HKno:=hid hKno;have Hr6:=hid hr6;clear hkf hKno hr6;clear hrf hk6 hk6';obtain⟨d0,d1,d2,d3,d4,d5⟩:=hE1.c6;obtain⟨z0,z1,z2,z3,z4,z5⟩:=hE2.c6;have f2:=hE2.free
   go_wp2_with fail
   go_region
   go_wp2_with fail
   refine bp_gen (fun W=>Blk W (w.heap.size+1+1) [I u.a0,I u.a1,I u.a2,I u.a3,I u4,I u.a5]∧Keeps K w W∧RM W K1 r m c (s3.store (s0+sl) ad)) ⟨?_,?_,?_⟩ ?_
   ·exact c69
   ·repeat(first|with_reducible exact Hkf.out|with_reducible refine Keeps.drew ?_|with_reducible refine Keeps.setCell ?_ ?_ _)
    all_goals(intro hb;have:=HKno.out _ hb;simp at this;omega)
   ·repeat(first|with_reducible exact Hr6.out|with_reducible exact Hg2'.out|with_reducible refine RM.drew ?_|with_reducible refine RM.setK ?_ ?_ _)
    all_goals exact Hg2'.out
   clear hE1 hE2 f2 d0 d1 d2 d3 d4 d5 z0 z1 z2 z3 z4 z5;rintro W3 ⟨hE2,hkf,hrf⟩;obtain⟨d0,d1,d2,d3,d4,d5⟩:=hE2.c6;refine bodyPost_ret (v:= .tuple #[I ad,.agg #[I u.a0,I u.a1,I u.a2,I u.a3,I u4,I u.a5],I 0]) ?_ rfl ?_
   ·simp[results,Tryz.results81,go_sem,d0,d1,d2,d3,d4,d5]
   ·refine hR'.out _ _ ⟨?_,?_,hkf⟩
    ·rw[←HU.out];simp;rfl
    ·rw[←Hfin.out];exact hrf.mono HKK'.out):p:=h
theorem c202 (h:p:=by
 have hpl:=fun W (hk:Keeps (· <w.heap.size) w W)=>ref12_place cs segs wt wv u0 u1 u2 u3 u4 u5 id A cp A2 cp2 W K (fun b hb9=>Nat.lt_of_lt_of_le (hb b hb9) hk.size) (hsl.keep hk hb) hcn (hs2.keep hk hb) hok hn;rw[hq]at hpl;dsimp only at hpl;have Hb:=hid hb;have Hsl:=hid hsl;have Hs2:=hid hs2;have Hok:=hid hok;have Hpl:=hid hpl;clear hb hsl hs2 hok hpl;refine calls_hide fun R' hR'=>?_
 go_enter Tryz.func37,Tryz.ntmps37
 go_wp2_with fail
 refine calls_gen (fun W=>Blk W w.heap.size [.slice A cs.length cp,.slice A2 segs.length cp2,I wt,J wv,I u0,I u1,I u2,I u3,I u4,I u5]∧Blk W (w.heap.size+1) st0∧Keeps (· <w.heap.size) w W) ⟨?_,?_,?_⟩ (fun W0 HW=>?_)
 ·exact bA
 ·unfold st0;exact bA
 ·exact kA
 obtain⟨hA0,hA1,hkA⟩:=HW;refine(Hpl.out W0 hkA).mono ?_;rintro e w1 ⟨rfl,hk1⟩;have hB0:=hA0.keep hk1 hA0.lt;have hB1:=hA1.keep hk1 hA1.lt;have hkB:Keeps (· <w.heap.size) w w1:=hkA.trans (hk1.mono fun b hb=>Nat.lt_of_lt_of_le hb hkA.size);generalize hBB:w.heap.size=B at*;clear hA0 hA1 hkA hk1 Hpl;exact zz19.down):p:=h
theorem c203 (h:p:=by
 have hc1:=hB0;obtain⟨y0,y1,y2,y3,y4,y5,y6,y7,y8,y9⟩:=hc1.c10;have hz:=hB1;unfold st0 at hz;obtain⟨z0,z1,z2,z3,z4,z5,z6,z7,z8,z9⟩:=hz.c10;have f:=hz.free;clear hc1 hz;have HB0:=hid hB0;have HB1:=hid hB1;have HkB:=hid hkB;clear hB0 hB1 hkB
 go_upto_region 3 with fail
 go_region
 iterate 2 (first|go_values|go_skip|go_guarded|go_step|go_upon|go_back)
 go_step
 have hE:=(blk_out10 HB1.out rfl (.slice A cs.length cp) (.slice A2 segs.length cp2) (I wt) (J wv) (I u0) (I u1) (I u2) (I u3) (I u4) (I u5)).drew;have hkk:=(keeps_out10 (b:=B+1) HkB.out (fun h=>by have h:B+1<B:=h;omega) (.slice A cs.length cp) (.slice A2 segs.length cp2) (I wt) (J wv) (I u0) (I u1) (I u2) (I u3) (I u4) (I u5)).drew
 have hkn:=(keeps_out10 (K:=(· ≠B+1)) (b:=B+1) (Keeps.refl _ w1) (fun h=>h rfl) (.slice A cs.length cp) (.slice A2 segs.length cp2) (I wt) (J wv) (I u0) (I u1) (I u2) (I u3) (I u4) (I u5)).drew;generalize ((((((((((w1.setCell ⟨B+1,0,none⟩ (.slice A cs.length cp)).setCell ⟨B+1,1,none⟩ (.slice A2 segs.length cp2)).setCell ⟨B+1,2,none⟩ (I wt)).setCell ⟨B+1,3,none⟩ (J wv)).setCell ⟨B+1,4,none⟩ (I u0)).setCell ⟨B+1,5,none⟩ (I u1)).setCell ⟨B+1,6,none⟩ (I u2)).setCell ⟨B+1,7,none⟩ (I u3)).setCell ⟨B+1,8,none⟩ (I u4)).setCell ⟨B+1,9,none⟩ (I u5)).drew=WZ at*
 obtain⟨d0,d1,d2,d3,d4,d5,d6,d7,d8,d9⟩:=hE.c10;refine bodyPost_ret (v:= .tuple #[I 7,.agg #[.slice A cs.length cp,.slice A2 segs.length cp2,I wt,J wv,I u0,I u1,I u2,I u3,I u4,I u5]]) ?_ rfl ?_
 ·exact c144
 ·exact c92):p:=h
theorem c204 (h:p:=by
 obtain⟨bs,os,rfl,hkb,gx⟩:=SlAt.rec (SegM.len3 segs) Hs2.out p x hx;have hbsl:=Hb.out bs hkb;have a0:=(World.cell?_of_block (a:=⟨bs,os+p*3+0,none⟩) (hkB.block bs hbsl)).trans (gx 0 _ rfl);have a1:=(World.cell?_of_block (a:=⟨bs,os+p*3+1,none⟩) (hkB.block bs hbsl)).trans (gx 1 _ rfl);have a2:=(World.cell?_of_block (a:=⟨bs,os+p*3+2,none⟩) (hkB.block bs hbsl)).trans (gx 2 _ rfl)
 simp only[Nat.add_zero]at a0;have hpl9:=(List.getElem?_eq_some_iff.1 hx).1;have hpI:(p:Int)<(segs.length:Int):=by omega
 obtain⟨⟨x0,x1⟩,x2⟩:=Hok.out x (List.mem_of_getElem? hx);have hBase:=fun W=>ref12_base x W (by unfold Small;omega)
 have hbsm:=Small.base ⟨x0,x1⟩;obtain⟨xa,xd,xs⟩:=x;dsimp only at a0 a1 a2 hBase hqa hbsm;generalize SegM.base ⟨xa,xd,xs⟩=xb at*;obtain⟨xb0,xb1⟩:=hbsm;obtain⟨hv0,hv1⟩:=hv;obtain⟨hd0,hd1⟩:=hd;have hw1:IntKind.i64.wrap (4*d)=4*d:=IntWalk.i64_in _ (by omega)
 have hw2:IntKind.i64.wrap (xb+4*d)=xb+4*d:=IntWalk.i64_in _ (by omega)
 have hw3:IntKind.i64.wrap (xb+4*d+3)=(q:Int):=by rw[IntWalk.i64_in _ (by omega)];exact hqa
 have Hqa:=hid hqa;clear hqa gx;have hcc:=hB0;obtain⟨y0,y1,y2,y3,y4,y5,y6,y7,y8,y9⟩:=hcc.c10;clear hcc;have HB0:=hid hB0;have HB1:=hid hB1;have HkB:=hid hkB;have HBase:=hid hBase;clear hB0 hB1 hkB hBase
 go_wp2_with fail
 refine(HBase.out w1).mono ?_;rintro e w2 ⟨rfl,hk2⟩;have hC0:=HB0.out.keep hk2 HB0.out.lt;have hC1:=HB1.out.keep hk2 HB1.out.lt;have hkC:Keeps (· <B) w w2:=HkB.out.trans (hk2.mono fun b hb=>by have:=HB1.out.lt;omega)
 clear HB0 HB1 HkB hk2 a0 a1 a2 y0 y1 y2 y3 y4 y5 y6 y7 y8 y9 HBase;obtain⟨A',cap,e1,e2,e3,e4,e5⟩:=Hsl.out;injection e1 with e1 _ e1c
 subst e1 e1c;obtain⟨cb,co,rfl,hcb,hcell⟩:=e5 hn0;have hcbl:=Hb.out cb hcb;obtain⟨cv,hcv⟩:∃cv,cs[q]? =some cv:=⟨_,List.getElem?_eq_getElem hql⟩;have q0:=(World.cell?_of_block (a:=⟨cb,co+q,none⟩) (hkC.block cb hcbl)).trans (hcell q _ (by rw[List.getElem?_map,hcv];rfl))
 have hcd:cs.getD q 0=cv:=by rw[List.getD_eq_getElem?_getD,hcv];rfl
 rw[hcd]at hR';have hqI:(q:Int)<(cs.length:Int):=by omega
 have hqn:¬(q:Int)<0:=by omega
 have hqd0:decide ((q:Int)<0)=false:=decide_eq_false (by omega)
 have hqd1:decide ((cs.length:Int)≤(q:Int))=false:=decide_eq_false (by omega)
 clear e2 e3 e4 e5 hcell hcv hcd
 by_cases hz9:cv=0
 ·subst hz9;have hcc:=hC0;obtain⟨y0,y1,y2,y3,y4,y5,y6,y7,y8,y9⟩:=hcc.c10;clear hcc;have HCP:=hid (fun W (hk:Keeps (· <B) w W)=>ref12_copied cs segs wt wv u0 u1 u2 u3 u4 u5 (some ⟨cb,co,none⟩) cp (some ⟨bs,os,none⟩) cp2 W K (fun b hb9=>Nat.lt_of_lt_of_le (Hb.out b hb9) (by rw[←hBB]at*;exact hk.size)) (Hsl.out.keep hk Hb.out) hn0 hcn (Hs2.out.keep hk Hb.out) hl0 hn)
  have HC0:=hid hC0;have HC1:=hid hC1;have HkC:=hid hkC;clear hC0 hC1 hkC
  go_wp2_with fail
  refine(HCP.out w2 HkC.out).mono ?_;rintro e w3 ⟨NB,A3,cp3,rfl,hge,hN3,ho3,hne3,hk3⟩;have hD1:=HC1.out.keep hk3 HC1.out.lt;have hkD:Keeps (· <B) w w3:=HkC.out.trans (hk3.mono fun b hb=>by have:=HC1.out.lt;omega)
  have hBN:B+1<NB:=by have:=HC1.out.lt;omega
  have hog:∀b,(Value.slice A3 segs.length cp3).ownBlock=some b→B+1<b:=fun b hb=>by have:=(ownB_lt ho3 hb).1;have:=HC1.out.lt;omega
  clear HC0 HC1 HkC HCP hk3 y0 y1 y2 y3 y4 y5 y6 y7 y8 y9 q0 hqd0 hqd1 hqI hqn;have Hge:=hid hge;have HN3:=hid hN3;have Ho3:=hid ho3;have Hne3:=hid hne3;have HD1:=hid hD1;have HkD:=hid hkD;have Hog:=hid hog;clear hge hN3 ho3 hne3 hD1 hkD hog
  go_upto_region 8 with fail
  have hka:Keeps (· <w3.heap.size) w3 (w3.alloc (.cells #[.slice (some ⟨NB,0,none⟩) cs.length cs.length,.slice A3 segs.length cp3,I wt,J wv,I u0,I u1,I u2,I u3,I u4,I u5] 49)):=(Keeps.refl _ _).alloc (fun b hb=>hb) _;have hT4:=Blk.new w3 [.slice (some ⟨NB,0,none⟩) cs.length cs.length,.slice A3 segs.length cp3,I wt,J wv,I u0,I u1,I u2,I u3,I u4,I u5] 49;have hN4:=HN3.out.keep hka HN3.out.lt
  have ho4:=own_of_keep (own_any Ho3.out) hka fun b hb=>(ownB_lt Ho3.out hb).2;have hD4:=HD1.out.keep hka HD1.out.lt;have hkE:=HkD.out.trans (hka.mono fun b hb=>by have:=HD1.out.lt;omega)
  have hTN:NB<w3.heap.size:=HN3.out.lt;have hoT:∀b,(Value.slice A3 segs.length cp3).ownBlock=some b→b<w3.heap.size:=fun b hb=>(ownB_lt Ho3.out hb).2;clear HN3 Ho3 HD1 HkD hka;generalize hTB:w3.heap.size=TB at*;generalize w3.alloc (.cells #[.slice (some ⟨NB,0,none⟩) cs.length cs.length,.slice A3 segs.length cp3,I wt,J wv,I u0,I u1,I u2,I u3,I u4,I u5] 49)=w4 at*
  have hw5:IntKind.u32.wrap (wv+1)=wv+1:=IntWalk.u32_in _ (by omega)
  have hc3:=hT4;obtain⟨y0,y1,y2,y3,y4,y5,y6,y7,y8,y9⟩:=hc3.c10;have f3:=hT4.free 3;have hT5:Blk (w4.setCell ⟨TB,3,none⟩ (J (wv+1))) TB [.slice (some ⟨NB,0,none⟩) cs.length cs.length,.slice A3 segs.length cp3,I wt,J (wv+1),I u0,I u1,I u2,I u3,I u4,I u5]:=hT4.set 3 (J (wv+1));have hN5:=hN4.set_ne (a:=⟨TB,3,none⟩) (J (wv+1)) (by show NB≠TB;omega)
  have hD5:=hD4.set_ne (a:=⟨TB,3,none⟩) (J (wv+1)) (by show B+1≠TB;omega)
  have ho5:=ownsRow_setCell_other ho4 (a:=⟨TB,3,none⟩) (fun e=>by have:=hoT TB e;omega) (J (wv+1))
  have hkF:=hkE.setCell (p:=⟨TB,3,none⟩) (fun h=>by have h:TB<B:=h;omega) (J (wv+1))
  clear hc3 hT4 hN4 hD4 ho4 hkE;have HT5:=hid hT5;have HN5:=hid hN5;have HD5:=hid hD5;have Ho5:=hid ho5;have HkF:=hid hkF;have HoT:=hid hoT;clear hT5 hN5 hD5 ho5 hkF hoT
  go_upto_region 9 with fail
  generalize w4.setCell ⟨TB,3,none⟩ (J (wv+1))=w5 at*;clear y0 y1 y2 y3 y4 y5 y6 y7 y8 y9 f3;have hlx:(cs.map (Value.int .u32)).length=cs.length:=List.length_map ..;have hin:(q:Int)<(cs.length:Int):=by omega
  have hin0:¬(q:Int)<0:=by omega
  have hd9:decide ((q:Int)<0)=false:=decide_eq_false (by omega)
  have hd8:decide ((cs.length:Int)≤(q:Int))=false:=decide_eq_false (by omega)
  obtain⟨old,hold⟩:∃x,(cs.map (Value.int .u32))[q]? =some x:=⟨_,List.getElem?_eq_getElem (by rw[hlx];omega)⟩
  have hcell:=(HN5.out.cell q).trans hold;have hfr:=HN5.out.free q;have hc3:=HT5.out;obtain⟨y0,y1,y2,y3,y4,y5,y6,y7,y8,y9⟩:=hc3.c10;have hN6:=HN5.out.set q (J (wv+1));rw[←List.map_set]at hN6;have hT6:=HT5.out.set_ne (a:=⟨NB,q,none⟩) (J (wv+1)) (by show TB≠NB;omega)
  have hD6:=HD5.out.set_ne (a:=⟨NB,q,none⟩) (J (wv+1)) (by show B+1≠NB;omega)
  have ho6:=ownsRow_setCell_other Ho5.out (a:=⟨NB,q,none⟩) (fun e=>Hne3.out NB e rfl) (J (wv+1));have hkG:=HkF.out.setCell (p:=⟨NB,q,none⟩) (fun h=>by have h:NB<B:=h;omega) (J (wv+1))
  clear hold hc3 HN5 HT5 HD5 Ho5 HkF hlx;have HN6:=hid hN6;have HT6:=hid hT6;have HD6:=hid hD6;have Ho6:=hid ho6;have HkG:=hid hkG;clear hN6 hT6 hD6 ho6 hkG
  go_upto_region 10 with fail
  generalize w5.setCell ⟨NB,q,none⟩ (J (wv+1))=w6 at*;clear y0 y1 y2 y3 y4 y5 y6 y7 y8 y9 hcell hfr hin hin0 hd9 hd8;have hlx:((cs.set q (wv+1)).map (Value.int .u32)).length=cs.length:=by simp
  have hin:(1:Int)<(cs.length:Int):=by omega
  have hd8:decide ((cs.length:Int)≤1)=false:=decide_eq_false (by omega)
  obtain⟨old,hold⟩:∃x,((cs.set q (wv+1)).map (Value.int .u32))[1]? =some x:=⟨_,List.getElem?_eq_getElem (by rw[hlx];omega)⟩
  have hcell:=(HN6.out.cell 1).trans hold;have hfr:=HN6.out.free 1;have hc3:=HT6.out;obtain⟨y0,y1,y2,y3,y4,y5,y6,y7,y8,y9⟩:=hc3.c10;have hN7:=HN6.out.set 1 (J (wv+1));rw[←List.map_set]at hN7;have hT7:=HT6.out.set_ne (a:=⟨NB,1,none⟩) (J (wv+1)) (by show TB≠NB;omega)
  have hD7:=HD6.out.set_ne (a:=⟨NB,1,none⟩) (J (wv+1)) (by show B+1≠NB;omega)
  have ho7:=ownsRow_setCell_other Ho6.out (a:=⟨NB,1,none⟩) (fun e=>Hne3.out NB e rfl) (J (wv+1));have hkH:=HkG.out.setCell (p:=⟨NB,1,none⟩) (fun h=>by have h:NB<B:=h;omega) (J (wv+1))
  clear hold hc3 HN6 HT6 HD6 Ho6 HkG hlx;have HN7:=hid hN7;have HT7:=hid hT7;have HD7:=hid hD7;have Ho7:=hid ho7;have HkH:=hid hkH;clear hN7 hT7 hD7 ho7 hkH
  go_upto_region 11 with fail
  generalize w6.setCell ⟨NB,1,none⟩ (J (wv+1))=w7 at*;clear y0 y1 y2 y3 y4 y5 y6 y7 y8 y9 hcell hfr hin hd8;have hc3:=HT7.out;obtain⟨y0,y1,y2,y3,y4,y5,y6,y7,y8,y9⟩:=hc3.c10;have hz:=HD7.out;unfold st0 at hz;obtain⟨z0,z1,z2,z3,z4,z5,z6,z7,z8,z9⟩:=hz.c10;have f:=hz.free;clear hc3 hz
  go_region
  iterate 2 (first|go_values|go_skip|go_guarded|go_step|go_upon|go_back)
  go_step
  have hE:=(blk_out10 HD7.out rfl (.slice (some ⟨NB,0,none⟩) cs.length cs.length) (.slice A3 segs.length cp3) (I wt) (J (wv+1)) (I u0) (I u1) (I u2) (I u3) (I u4) (I u5)).drew;have hkk:=(keeps_out10 (b:=B+1) HkH.out (fun h=>by have h:B+1<B:=h;omega) (.slice (some ⟨NB,0,none⟩) cs.length cs.length) (.slice A3 segs.length cp3) (I wt) (J (wv+1)) (I u0) (I u1) (I u2) (I u3) (I u4) (I u5)).drew
  have hkn:=(keeps_out10 (K:=(· ≠B+1)) (b:=B+1) (Keeps.refl _ w7) (fun h=>h rfl) (.slice (some ⟨NB,0,none⟩) cs.length cs.length) (.slice A3 segs.length cp3) (I wt) (J (wv+1)) (I u0) (I u1) (I u2) (I u3) (I u4) (I u5)).drew;generalize ((((((((((w7.setCell ⟨B+1,0,none⟩ (.slice (some ⟨NB,0,none⟩) cs.length cs.length)).setCell ⟨B+1,1,none⟩ (.slice A3 segs.length cp3)).setCell ⟨B+1,2,none⟩ (I wt)).setCell ⟨B+1,3,none⟩ (J (wv+1))).setCell ⟨B+1,4,none⟩ (I u0)).setCell ⟨B+1,5,none⟩ (I u1)).setCell ⟨B+1,6,none⟩ (I u2)).setCell ⟨B+1,7,none⟩ (I u3)).setCell ⟨B+1,8,none⟩ (I u4)).setCell ⟨B+1,9,none⟩ (I u5)).drew=WZ at*
  obtain⟨d0,d1,d2,d3,d4,d5,d6,d7,d8,d9⟩:=hE.c10;refine bodyPost_ret (v:= .tuple #[I 0,.agg #[.slice (some ⟨NB,0,none⟩) cs.length cs.length,.slice A3 segs.length cp3,I wt,J (wv+1),I u0,I u1,I u2,I u3,I u4,I u5]]) ?_ rfl ?_
  ·exact c144
  ·refine hR'.out _ _ ⟨?_,hkk⟩;rw[if_neg (fun h=>h rfl)];exact⟨NB,A3,cp3,rfl,by omega,HN7.out.keep hkn (by show NB≠B+1;omega),own_base (own_of_keep Ho7.out hkn fun b hb=>by have:=Hog.out b hb;show b≠B+1;omega) fun b hb=>by have:=Hog.out b hb;omega⟩
 ·have hzb:(cv !=0)=true:=by simpa using hz9
  have HZ9:=hid hz9;clear hz9;have hc1:=hC0;obtain⟨y0,y1,y2,y3,y4,y5,y6,y7,y8,y9⟩:=hc1.c10;have hz:=hC1;unfold st0 at hz;obtain⟨z0,z1,z2,z3,z4,z5,z6,z7,z8,z9⟩:=hz.c10;have f:=hz.free;clear hc1 hz;have HC0:=hid hC0;have HC1:=hid hC1;have HkC:=hid hkC;clear hC0 hC1 hkC
  go_upto_region 6 with fail
  go_region
  iterate 2 (first|go_values|go_skip|go_guarded|go_step|go_upon|go_back)
  go_step
  have hE:=(blk_out10 HC1.out rfl (.slice (some ⟨cb,co,none⟩) cs.length cp) (.slice (some ⟨bs,os,none⟩) segs.length cp2) (I wt) (J wv) (I u0) (I u1) (I u2) (I u3) (I u4) (I u5)).drew;have hkk:=(keeps_out10 (b:=B+1) HkC.out (fun h=>by have h:B+1<B:=h;omega) (.slice (some ⟨cb,co,none⟩) cs.length cp) (.slice (some ⟨bs,os,none⟩) segs.length cp2) (I wt) (J wv) (I u0) (I u1) (I u2) (I u3) (I u4) (I u5)).drew
  have hkn:=(keeps_out10 (K:=(· ≠B+1)) (b:=B+1) (Keeps.refl _ w2) (fun h=>h rfl) (.slice (some ⟨cb,co,none⟩) cs.length cp) (.slice (some ⟨bs,os,none⟩) segs.length cp2) (I wt) (J wv) (I u0) (I u1) (I u2) (I u3) (I u4) (I u5)).drew;generalize ((((((((((w2.setCell ⟨B+1,0,none⟩ (.slice (some ⟨cb,co,none⟩) cs.length cp)).setCell ⟨B+1,1,none⟩ (.slice (some ⟨bs,os,none⟩) segs.length cp2)).setCell ⟨B+1,2,none⟩ (I wt)).setCell ⟨B+1,3,none⟩ (J wv)).setCell ⟨B+1,4,none⟩ (I u0)).setCell ⟨B+1,5,none⟩ (I u1)).setCell ⟨B+1,6,none⟩ (I u2)).setCell ⟨B+1,7,none⟩ (I u3)).setCell ⟨B+1,8,none⟩ (I u4)).setCell ⟨B+1,9,none⟩ (I u5)).drew=WZ at*
  obtain⟨d0,d1,d2,d3,d4,d5,d6,d7,d8,d9⟩:=hE.c10;refine bodyPost_ret (v:= .tuple #[I 7,.agg #[.slice (some ⟨cb,co,none⟩) cs.length cp,.slice (some ⟨bs,os,none⟩) segs.length cp2,I wt,J wv,I u0,I u1,I u2,I u3,I u4,I u5]]) ?_ rfl ?_
  ·exact c144
  ·refine hR'.out _ _ ⟨?_,hkk⟩;rw[if_pos HZ9.out]):p:=h
theorem c205 (h:p:=by
 obtain⟨⟨⟨hn,hc⟩,hs⟩,hall⟩:=hB;have hn':n<l.toArray.size:=by simpa using hn
 have hdep:∀i o,i<n→l[i]? =some o→∀e∈o.after,Region.binds md e=true→e.on<i:=fun i o hi ho e he hb=>by
  exact c121
 have hg:∀i o,i<n→l[i]? =some o→∀j b,o.guard=some (j,b)→j<n:=fun i o hi ho j b hgd=>by
  exact c143
 have done:∀(f:Nat) (listed:Array Bool) (a:Act) (w:World),HeadInv md l.toArray n listed→(∀i,i<n→listed.getD i true=true)→
   wpAnyH P md l.toArray Q Su (l.length-n) (Array.replicate n true++Array.replicate (l.length-n) false) a w→wpAnyH P md l.toArray Q Su (f+(l.length-n)) listed a w:=by
  intro f listed a w inv hA h;have hsz:listed.size=l.length:=by rw[inv.size];simp
  have el:listed=Array.replicate n true++Array.replicate (l.length-n) false:=by
   apply Array.ext
   ·simp[hsz];omega
   ·exact c85
  rw[el];exact wpAnyH_mores _ _ _ _ h f
 intro f;exact zz20.down):p:=h
theorem c206 (h:p:=by
 induction f with
 |zero=>
  exact c66
 |succ f ih=>
  intro L listed a w inv hpre hL hLL h
  by_cases hA:∀i,i<n→listed.getD i true=true
  ·exact c93
  ·obtain⟨i0,hi0,hu0,hm0⟩:=min_unlisted hA;have hsz:listed.size=l.length:=by rw[inv.size];simp
   have hr0:i0∈Region.ready md l.toArray listed:=by
    exact c139
   rw[show f+1+(l.length-n)=(f+(l.length-n))+1 by omega]
   refine⟨fun h0=>(by rw[h0]at hr0;cases hr0),fun i hi=>?_⟩
   have hin:i<n:=by
    rcases Nat.lt_or_ge i n with h1|h1
    ·exact h1
    ·exact absurd hi (waits_head hB' inv hpre _ i0 rfl hi0 hu0 i h1)
   exact c33):p:=h
theorem c207 (h:p:=by
 induction f with
 |zero=>
  exact c66
 |succ f ih=>
  intro L listed a w inv hpre hL hLL h
  by_cases hA:∀i,i<n→listed.getD i true=true
  ·exact c93
  ·obtain⟨i0,hi0,hu0,hm0⟩:=min_unlisted hA;have hsz:listed.size=l.length:=by rw[inv.size];simp
   have hr0:i0∈Region.ready md l.toArray listed:=by
    exact c139
   rw[show f+1+(l.length-n)=(f+(l.length-n))+1 by omega]
   refine⟨fun h0=>(by rw[h0]at hr0;cases hr0),fun i hi=>?_⟩
   have hin:i<n:=by
    rcases Nat.lt_or_ge i n with h1|h1
    ·exact h1
    ·exact absurd hi (waits_headC hB' inv hpre _ i0 rfl hi0 hu0 i h1)
   exact c33):p:=h
theorem c208 (h:p:=by
 obtain⟨hO,hKO,hbd,hres⟩:=HI.out;rw[show needL (f+1) n' r' k' o=needL f (n'-r') (szK k'-1) (min (k'+1) 3) (o.up k' (szK k'))from by rw[needL,if_pos hgt]]at hres
 have HRQ:=hid hres;have hf2:(n'-r').toNat+0<f:=by split at hf<;>omega
 have HF:=hid hf2;have HGT:=hid hgt;have hbk:=hbd k' hk';have hszb:=szK_bd k';have HBD:=hid (show∀i,i≤3→0≤(o.up k' (szK k')).uK i∧(o.up k' (szK k')).uK i+256*f≤10000000 from by
  intro i hi;have:=hbd i hi;rw[uK_up hk' hi]
  split<;>omega)
 have hme:2*(n'-r').toNat+0<2*n'.toNat+(if r'≤0 then 1 else 0):=by split<;>omega
 have HME:=hid hme;have HKO:=hid hKO;have HN:=hid (And.intro hn0 (And.intro hn1 (And.intro hr0 hr1)));have g1:IntKind.i64.wrap (n'-r')=n'-r':=IntWalk.i64_in _ (by omega)
 have HNN:=hid (show-9223372036854775808≤n'-r'∧n'-r'≤3000 from by omega)
 have hcases:k'=0∨k'=1∨k'=2∨k'=3:=by omega
 exact zz21.down):p:=h
theorem c209 (h:p:=by
 have hTb:PTab wr:=HTB.out.1.keep hKO ⟨by have:=HTB.out.2;omega,by omega⟩
 clear hres hf2 hme hf hbd hKO HI hk' hn0 hn1 hr0 hr1
 rcases hcases with rfl|rfl|rfl|rfl
 ·obtain⟨z0,z1,z2,z3,z4,z5⟩:=hO.c6;have zz86:=PLift.up @c484;exact c483
 ·obtain⟨z0,z1,z2,z3,z4,z5⟩:=hO.c6;have zz84:=PLift.up @c478;exact c477
 ·obtain⟨z0,z1,z2,z3,z4,z5⟩:=hO.c6;have zz85:=PLift.up @c481;exact c480
 ·obtain⟨z0,z1,z2,z3,z4,z5⟩:=hO.c6;have zz83:=PLift.up @c475;exact c474):p:=h
theorem c210 (h:p:=by
 have hTb:PTab wr:=HTC.out.1.keep hKO ⟨by have:=HTC.out.2;omega,by omega⟩
 clear hres hf2 hme hf hbd hKO HI hk' hn0 hn1 hr0 hr1
 rcases hcases with rfl|rfl|rfl|rfl
 ·obtain⟨z0,z1,z2,z3,z4,z5⟩:=hO.c6;have zz86:=PLift.up @c485;exact c483
 ·obtain⟨z0,z1,z2,z3,z4,z5⟩:=hO.c6;have zz84:=PLift.up @c479;exact c477
 ·obtain⟨z0,z1,z2,z3,z4,z5⟩:=hO.c6;have zz85:=PLift.up @c482;exact c480
 ·obtain⟨z0,z1,z2,z3,z4,z5⟩:=hO.c6;have zz83:=PLift.up @c476;exact c474):p:=h
theorem c211 (h:p:=by
 obtain⟨⟨tt,tp⟩,hx⟩:∃t,ws[j]? =some t:=⟨_,List.getElem?_eq_getElem hjl⟩;obtain⟨g,rfl,gc⟩:=own_rec tokC_len HN1.out hx;have hcell:=fun(o:Nat) (u:Value) (ho:o<3) (hu:(tokC (tt,tp))[o]? =some u)=>(World.cell?_of_block (a:=⟨g,j*3+o,none⟩) (HK4.out.block g (Or.inr rfl))).trans (gc o u ho hu);have a0:=hcell 0 _ (by decide) rfl
 have a1:=hcell 1 _ (by decide) rfl
 have a2:=hcell 2 _ (by decide) rfl
 simp only[Nat.add_zero]at a0;have hex:=HE2.out;rw[show ws.drop j=(tt,tp)::ws.drop (j+1) by
  obtain⟨h9,h8⟩:=List.getElem?_eq_some_iff.1 hx;rw[List.drop_eq_getElem_cons h9,h8],List.map_cons]at hex
 have hex2:(acc2++[tokF i (tt,tp)])++((ws.drop (j+1)).map (tokF i)++toksL (i+1) (fs.drop (i+1)))=toksL 0 fs:=by rw[←hex];simp
 clear gc hcell hx HE2 hex;have Hex2:=hid hex2;clear hex2;have hi5:(i:Int)≤4:=by omega
 go_upto_region 17 with fail
 exact zz22.down):p:=h
theorem c212 (h:p:=by
 have hwu:IntKind.u8.wrap (i:Int)=(i:Int):=IntWalk.u8_in _ (by omega)
 have hOd:TokOwn wy.drew (fun b=>b<WB∨(Value.slice (some ⟨g,0,none⟩) ws.length c3).ownBlock=some b) (.slice A2 acc2.length c2) acc2:=⟨own_of_keep HO4.out.1 ((Keeps.refl (fun _=>True) wy).drew) fun _ _=>trivial,HO4.out.2⟩;have hgne:(Value.slice A2 acc2.length c2).ownBlock≠some g:=fun e=>HO4.out.2 g e (Or.inr rfl);have hgl:g<wy.heap.size:=Nat.lt_of_lt_of_le (Hlt2.out g (Or.inr rfl)) HK4.out.size
 have hone:∀u∈[Value.int .u8 (i:Int),.string tt,I (tp:Int)],u.oneCell'=true:=fun u hu=>by simp at hu;rcases hu with rfl|rfl|rfl<;>rfl
 have hnews:∀(j:Nat) (u:Value),[Value.int .u8 (i:Int),.string tt,I (tp:Int)][j]? =some u→(wy.drew.alloc (.cells #[.int .u8 (i:Int),.string tt,I (tp:Int)] 128)).cell? ((⟨wy.heap.size,0,none⟩:Addr).add j)=some u:=fun j u hu=>by
  rw[Addr.add_lit,Nat.zero_add];exact((Blk.new' wy.drew [.int .u8 (i:Int),.string tt,I (tp:Int)] _ rfl).cell j).trans hu
 obtain⟨i0,hi9,hz0,hz1,hz2⟩:=info_partsF Tryz.infoTok;have HCE:=hid (show∀W,(wy.drew.alloc (.cells #[.int .u8 (i:Int),.string tt,I (tp:Int)] 128)).grownBy W (Value.slice A2 acc2.length c2).ownBlock→(W.cell? ⟨g,j*3+1,none⟩=some (.string tt)∧W.cell? ⟨g,j*3+2,none⟩=some (I (tp:Int)))from fun W hg=>⟨(hg.cell_far ⟨g,j*3+1,none⟩ (by show g<_;rw[World.size_alloc];show g<wy.heap.size+1;omega) (Ne.symm hgne)).trans ((World.cell?_of_block (a:=⟨g,j*3+1,none⟩) (Below.heap_alloc wy.drew _ _ hgl)).trans a1),(hg.cell_far ⟨g,j*3+2,none⟩ (by show g<_;rw[World.size_alloc];show g<wy.heap.size+1;omega) (Ne.symm hgne)).trans ((World.cell?_of_block (a:=⟨g,j*3+2,none⟩) (Below.heap_alloc wy.drew _ _ hgl)).trans a2)⟩)
 have HOd:=hid hOd;have Hone:=hid hone;have Hnews:=hid hnews;clear hOd hone hnews
 go_region_held_law (fun w'=>w'.cell? ⟨g,j*3+1,none⟩=some (.string tt)∧w'.cell? ⟨g,j*3+2,none⟩=some (I (tp:Int))) (first|go_keep|exact HCE.out _ hgrow)
  ((refine step_append_lies _ (by rfl) _ _ 117 (by rfl) 0 128 i0 (.agg #[.int .u8 0,.string ⟨#[]⟩,I 0]) 3 32 Tryz.underlying117 hi9 hz0 hz1 hz2 rfl (by decide) (.slice A2 acc2.length c2) acc2.length (acc2.flatMap tokI) (by rfl) (HOd.out.1.alloc _) ⟨wy.heap.size,0,none⟩ 1 1 [.int .u8 (i:Int),.string tt,I (tp:Int)] (by rfl) rfl Hnews.out Hone.out (by decide) (by unfold maxLen;omega) (by omega) (Nat.zero_le _) (wy.heap.size+1) (by simp) ?_;intro g9 cap9 w6 hown' hgrow hat hlt9))
 have hwl9:∀b,(b<WB∨(Value.slice (some ⟨g,0,none⟩) ws.length c3).ownBlock=some b)→b<wy.heap.size:=fun b hb=>Nat.lt_of_lt_of_le (Hlt2.out b hb) HK4.out.size;have hK6:=((HK4.out.drew).alloc hwl9 (.cells #[.int .u8 (i:Int),.string tt,I (tp:Int)] 128)).trans (keeps_append (fun b hb=>by have:=hwl9 b hb;rw[World.size_alloc];show b<wy.heap.size+1;omega) HO4.out.2 hgrow)
 have hO6:TokOwn w6 (fun b=>b<WB∨(Value.slice (some ⟨g,0,none⟩) ws.length c3).ownBlock=some b) (.slice (some ⟨g9,0,none⟩) (acc2.length+1) cap9) (acc2++[tokF i (tt,tp)]):=by
  refine⟨by simpa[List.flatMap_append,tokI,tokF]using hown',fun b hb hKb=>?_⟩
  have hb:some g9=some b:=hb;injection hb with hb
  subst hb
  rcases hat with h|h
  ·exact HO4.out.2 g9 h hKb
  ·have:=hwl9 g9 hKb;omega
 have hll:(acc2++[tokF i (tt,tp)]).length=acc2.length+1:=by simp
 rw[←hll]at hO6;clear hown' hgrow hat hlt9 hi9 hz0 hz1 hz2 hwl9 HO4 HK4 HCE HOd Hone Hnews hgne hgl hwu;generalize acc2++[tokF i (tt,tp)]=acc3 at*;have HK6:=hid hK6;have HO6:=hid hO6;clear hK6 hO6
 go_wp2_with fail
 go_roundw
 case rel=>exact⟨j+1,acc3,some ⟨g9,0,none⟩,cap9,by rw[hll],by go_num,by omega,by omega,Hex2,HO6,HK6⟩
 case measure=>exact msA):p:=h
theorem c213 (h:p:=by
 have hwl:∀b,(b<w.heap.size∨(Value.slice (some ⟨g,0,none⟩) ws.length c3).ownBlock=some b)→b<wy.heap.size:=fun b hb=>Nat.lt_of_lt_of_le (Hlt2.out b hb) HK4.out.size;have hal5:Keeps (· <wy.heap.size) wy (wy.alloc (.cells #[.int .u8 (i:Int),.string tt,I (tp:Int)] 128)):=(Keeps.refl _ _).alloc (fun b hb=>hb) _;have hO5:TokOwn (wy.alloc (.cells #[.int .u8 (i:Int),.string tt,I (tp:Int)] 128)) (fun b=>b<w.heap.size∨(Value.slice (some ⟨g,0,none⟩) ws.length c3).ownBlock=some b) (.slice A2 acc2.length c2) acc2:=
  ⟨own_of_keep HO4.out.1 hal5 fun b hb=>(HO4.out.1.lt b hb).2,HO4.out.2⟩
 have hK5:=HK4.out.trans (hal5.mono hwl);have hB5:=Blk.new wy [.int .u8 (i:Int),.string tt,I (tp:Int)] 128;generalize wy.alloc (.cells #[.int .u8 (i:Int),.string tt,I (tp:Int)] 128)=W1 at*;obtain⟨y0,y1,y2⟩:=hB5.c3;clear hB5 hal5 HO4 HK4 a0 a1 a2 hwl;have HO5:=hid hO5;have HK5:=hid hK5;clear hO5 hK5;obtain⟨i0,hi9,hz0,hz1,hz2⟩:=info_partsF Tryz.infoTok
 go_wp2_with (at_builtin;go_must (refine wpList_append_x rfl _ _ 117 rfl 128 i0 (.agg #[.int .u8 0,.string ⟨#[]⟩,I 0]) 3 32 Tryz.underlying117 hi9 hz0 hz1 hz2 rfl (by decide) (.slice A2 acc2.length c2) acc2.length (acc2.flatMap tokI) rfl (HO5.out.1.alloc _) ⟨W1.heap.size,0,none⟩ 1 1 [.int .u8 (i:Int),.string tt,I (tp:Int)] rfl rfl ?_ ?_ ?_ ?_ ?_))
 ·intro jj u hj;rw[Addr.add_lit,Nat.zero_add];exact((Blk.new' _ [.int .u8 (i:Int),.string tt,I (tp:Int)] _ (by simp)).cell jj).trans hj
 ·intro u hu;simp at hu;rcases hu with rfl|rfl|rfl<;>rfl
 ·unfold maxLen;omega
 ·omega
 ·intro v' w6 hown' hgr hfr;obtain⟨A9,cp9,rfl⟩:=ownB_form hown';have hwl:∀b,(b<w.heap.size∨(Value.slice (some ⟨g,0,none⟩) ws.length c3).ownBlock=some b)→b<W1.heap.size:=fun b hb=>Nat.lt_of_lt_of_le (Hlt2.out b hb) HK5.out.size;have hK6:=(HK5.out.alloc hwl (.cells #[.int .u8 (i:Int),.string tt,I (tp:Int)] 128)).trans (keeps_append (fun b hb=>by have:=hwl b hb;simp;omega) HO5.out.2 hgr)
  have hO6:TokOwn w6 (fun b=>b<w.heap.size∨(Value.slice (some ⟨g,0,none⟩) ws.length c3).ownBlock=some b) (.slice A9 (acc2.length+1) cp9) (acc2++[tokF i (tt,tp)]):=by
   refine⟨?_,?_⟩
   ·simpa[List.flatMap_append,tokI,tokF]using hown'
   ·intro b hb hKb
    rcases hfr with h|⟨b',h,h2⟩
    ·exact HO5.out.2 b (h▸hb) hKb
    ·rw[h]at hb;injection hb with hb
     have h3:=hwl b hKb;have h4:=World.size_alloc W1 (.cells #[.int .u8 (i:Int),.string tt,I (tp:Int)] 128)
     omega
  have hll:(acc2++[tokF i (tt,tp)]).length=acc2.length+1:=by simp
  rw[←hll]at hO6;generalize acc2++[tokF i (tt,tp)]=acc3 at*;have HK6:=hid hK6;have HO6:=hid hO6;clear hK6 hO6;clear hown' hgr hfr hi9 hz0 hz1 hz2 y0 y1 y2 hwl HO5 HK5
  go_wp2_with fail
  go_roundw
  case rel=>exact⟨j+1,acc3,A9,cp9,by rw[hll],by go_num,by omega,by omega,Hex2,HO6,HK6⟩
  case measure=>exact msA):p:=h
theorem c214 (h:p:=by
 have zz108:=PLift.up @c550;exact c549):p:=h
end Go.Proofs.YtogdknnkhkjmcaaGreatDoor
