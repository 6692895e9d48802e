/- Contracts of package pool: Take, at the pools of slabs. Printed by gen/take.py. -/
import Derived.Test.YtogdknnkhkjmcaaGreatDoorJPoolC
namespace Go.Proofs.YtogdknnkhkjmcaaGreatDoor
open Go.RowKit
set_option linter.all false
set_option maxRecDepth 100000 in
set_option maxHeartbeats 1000000 in
theorem take_yes0 (p:PlanM)(u:V6)(n:Int)(w:World)(h1:1≤n)(h0:0≤u.a0)(h2:u.a0+n≤p.size.a0)(h3:p.size.a0≤65536)(hb:0≤p.base.a0∧p.base.a0≤65536):
  Calls Tryz.prog 43 #[p.val,u.val,I 0,I n] w fun e w'=>
   e= .returned (.tuple #[I (p.base.a0+u.a0),V6.val { u with a0:=u.a0+n },I 0])∧Keeps (· <w.heap.size) w w':=by
 have zz162:=@c765;exact c763
set_option maxRecDepth 100000 in
set_option maxHeartbeats 1000000 in
theorem take_no0 (p:PlanM)(u:V6)(n:Int)(w:World)(h1:1≤n)(hn:n≤1099511627776)(h0:0≤u.a0)(hu:u.a0≤p.size.a0)(h2:p.size.a0<u.a0+n)(h3:p.size.a0≤65536):
  Calls Tryz.prog 43 #[p.val,u.val,I 0,I n] w fun e w'=>
   e= .returned (.tuple #[I 0,V6.val ⟨0,0,0,0,0,0⟩,I 3])∧Keeps (· <w.heap.size) w w':=by
 have zz49:=@c310;exact c308
set_option maxRecDepth 100000 in
set_option maxHeartbeats 1000000 in
theorem take_yes1 (p:PlanM)(u:V6)(n:Int)(w:World)(h1:1≤n)(h0:0≤u.a1)(h2:u.a1+n≤p.size.a1)(h3:p.size.a1≤65536)(hb:0≤p.base.a1∧p.base.a1≤65536):
  Calls Tryz.prog 43 #[p.val,u.val,I 1,I n] w fun e w'=>
   e= .returned (.tuple #[I (p.base.a1+u.a1),V6.val { u with a1:=u.a1+n },I 0])∧Keeps (· <w.heap.size) w w':=by
 have zz162:=@c766;exact c763
set_option maxRecDepth 100000 in
set_option maxHeartbeats 1000000 in
theorem take_no1 (p:PlanM)(u:V6)(n:Int)(w:World)(h1:1≤n)(hn:n≤1099511627776)(h0:0≤u.a1)(hu:u.a1≤p.size.a1)(h2:p.size.a1<u.a1+n)(h3:p.size.a1≤65536):
  Calls Tryz.prog 43 #[p.val,u.val,I 1,I n] w fun e w'=>
   e= .returned (.tuple #[I 0,V6.val ⟨0,0,0,0,0,0⟩,I 3])∧Keeps (· <w.heap.size) w w':=by
 have zz49:=@c311;exact c308
set_option maxRecDepth 100000 in
set_option maxHeartbeats 1000000 in
theorem take_yes2 (p:PlanM)(u:V6)(n:Int)(w:World)(h1:1≤n)(h0:0≤u.a2)(h2:u.a2+n≤p.size.a2)(h3:p.size.a2≤65536)(hb:0≤p.base.a2∧p.base.a2≤65536):
  Calls Tryz.prog 43 #[p.val,u.val,I 2,I n] w fun e w'=>
   e= .returned (.tuple #[I (p.base.a2+u.a2),V6.val { u with a2:=u.a2+n },I 0])∧Keeps (· <w.heap.size) w w':=by
 have zz162:=@c767;exact c763
set_option maxRecDepth 100000 in
set_option maxHeartbeats 1000000 in
theorem take_no2 (p:PlanM)(u:V6)(n:Int)(w:World)(h1:1≤n)(hn:n≤1099511627776)(h0:0≤u.a2)(hu:u.a2≤p.size.a2)(h2:p.size.a2<u.a2+n)(h3:p.size.a2≤65536):
  Calls Tryz.prog 43 #[p.val,u.val,I 2,I n] w fun e w'=>
   e= .returned (.tuple #[I 0,V6.val ⟨0,0,0,0,0,0⟩,I 3])∧Keeps (· <w.heap.size) w w':=by
 have zz49:=@c312;exact c308
set_option maxRecDepth 100000 in
set_option maxHeartbeats 1000000 in
theorem take_yes3 (p:PlanM)(u:V6)(n:Int)(w:World)(h1:1≤n)(h0:0≤u.a3)(h2:u.a3+n≤p.size.a3)(h3:p.size.a3≤65536)(hb:0≤p.base.a3∧p.base.a3≤65536):
  Calls Tryz.prog 43 #[p.val,u.val,I 3,I n] w fun e w'=>
   e= .returned (.tuple #[I (p.base.a3+u.a3),V6.val { u with a3:=u.a3+n },I 0])∧Keeps (· <w.heap.size) w w':=by
 have zz162:=@c768;exact c763
set_option maxRecDepth 100000 in
set_option maxHeartbeats 1000000 in
theorem take_no3 (p:PlanM)(u:V6)(n:Int)(w:World)(h1:1≤n)(hn:n≤1099511627776)(h0:0≤u.a3)(hu:u.a3≤p.size.a3)(h2:p.size.a3<u.a3+n)(h3:p.size.a3≤65536):
  Calls Tryz.prog 43 #[p.val,u.val,I 3,I n] w fun e w'=>
   e= .returned (.tuple #[I 0,V6.val ⟨0,0,0,0,0,0⟩,I 3])∧Keeps (· <w.heap.size) w w':=by
 have zz49:=@c313;exact c308
def V6.uK (u:V6):Nat→Int
 |0=>u.a0
 |1=>u.a1
 |2=>u.a2
 |_=>u.a3
def V6.up (u:V6)(k:Nat)(n:Int):V6:=
 match k with
 |0=>{ u with a0:=u.a0+n }
 |1=>{ u with a1:=u.a1+n }
 |2=>{ u with a2:=u.a2+n }
 |_=>{ u with a3:=u.a3+n }
theorem take_yes (p:PlanM)(u:V6)(k:Nat)(hk:k≤3)(n:Int)(w:World)(hp:p.Wf)(h1:1≤n)(h0:0≤u.uK k)(h2:u.uK k+n≤p.sK k):
  Calls Tryz.prog 43 #[p.val,u.val,I (k:Int),I n] w fun e w'=>
   e= .returned (.tuple #[I (p.bK k+u.uK k),(u.up k n).val,I 0])∧Keeps (· <w.heap.size) w w':=by
 have hs:=(hp.s k).2;have hb:=hp.b k
 match k,hk with
 |0,_=>exact take_yes0 p u n w h1 h0 h2 hs hb
 |1,_=>exact take_yes1 p u n w h1 h0 h2 hs hb
 |2,_=>exact take_yes2 p u n w h1 h0 h2 hs hb
 |3,_=>exact take_yes3 p u n w h1 h0 h2 hs hb
theorem take_no (p:PlanM)(u:V6)(k:Nat)(hk:k≤3)(n:Int)(w:World)(hp:p.Wf)(h1:1≤n)(hn:n≤1099511627776)(h0:0≤u.uK k)(hu:u.uK k≤p.sK k)(h2:p.sK k<u.uK k+n):
  Calls Tryz.prog 43 #[p.val,u.val,I (k:Int),I n] w fun e w'=>
   e= .returned (.tuple #[I 0,V6.val ⟨0,0,0,0,0,0⟩,I 3])∧Keeps (· <w.heap.size) w w':=by
 have hs:=(hp.s k).2
 match k,hk with
 |0,_=>exact take_no0 p u n w h1 hn h0 hu h2 hs
 |1,_=>exact take_no1 p u n w h1 hn h0 hu h2 hs
 |2,_=>exact take_no2 p u n w h1 hn h0 hu h2 hs
 |3,_=>exact take_no3 p u n w h1 hn h0 hu h2 hs
theorem RM.init {w1 w2:World}{K:Nat→Prop}{m c:Nat}{μ:MemS}{σ:RunS}(hm:MemAt w1 m c μ)(hr:RunAt w2 w1.heap.size m (.slice none 0 0) σ)
  (hk:Keeps (· <w1.heap.size) w1 w2) (hK:∀b,K b→b<w1.heap.size∧b≠m∧b≠c):RM w2 K w1.heap.size m c ⟨σ,μ⟩:=by
 have h1:=hm.obj.lt;have h2:=hm.cells.lt;exact⟨⟨_,hr,fun k hk=>by cases hk⟩,hm.keep hk h1 h2,by omega,by omega,fun h=>by have:=(hK _ h).1;omega,fun h=>(hK _ h).2.1 rfl,fun h=>(hK _ h).2.2 rfl,
  fun b hb=>by have:=(hK b hb).1;have:=hk.size;omega⟩
def run0:RunS:=⟨[],0,false,false,false,false,0⟩
def zeros6v:V6:=⟨0,0,0,0,0,0⟩
def V6.list (u:V6):List Value:=[.int .i64 u.a0,.int .i64 u.a1,.int .i64 u.a2,.int .i64 u.a3,.int .i64 u.a4,.int .i64 u.a5]
def putIn (t v:Int):Tree Unit:= .store (t+1) v (.ret ())
def putNew (t a v:Int):Tree Unit:=if t=0 then .store (a+1) v (.ret ())else .store a t (.store (a+1) v (.ret ()))
set_option maxRecDepth 100000 in
set_option maxHeartbeats 4000000 in
theorem put_in {w:World}{K:Nat→Prop}{r m c:Nat}{s:St}(h:RM w K r m c s)(hK0:K 0)(ht:PTab w)(p:PlanM)(hp:p.Wf)(u:V6)(t v:Int)(ht0:0≤t∧t≤4294967295)(hv:U32 v)(hn:p.next t=(-1,true)):
  Calls Tryz.prog 83 #[.pointer (some ⟨r,0,none⟩),p.val,u.val,I t,J v] w fun e w'=>
   e= .returned (.tuple #[I (t+1),u.val,I 0])∧RM w' K r m c ((putIn t v).exec s).2∧Keeps K w w':=by
 have zz12:=@c186;exact c185
set_option maxRecDepth 100000 in
set_option maxHeartbeats 4000000 in
theorem put_new {w:World}{K:Nat→Prop}{r m c:Nat}{s:St}(h:RM w K r m c s)(hK0:K 0)(ht:PTab w)(p:PlanM)(hp:p.Wf)(u:V6)(t v:Int)(k:Nat)(hk:k≤3)(ht0:0≤t∧t≤4294967295)(hv:U32 v)(hn:p.next t=((k:Int),true))(h0:0≤u.uK k)(hfit:u.uK k+szK k≤p.sK k):
  Calls Tryz.prog 83 #[.pointer (some ⟨r,0,none⟩),p.val,u.val,I t,J v] w fun e w'=>
   e= .returned (.tuple #[I (p.bK k+u.uK k+1),(u.up k (szK k)).val,I 0])∧RM w' K r m c ((putNew t (p.bK k+u.uK k) v).exec s).2∧Keeps K w w':=by
 have zz5:=@c165;exact c164
set_option maxRecDepth 100000 in
set_option maxHeartbeats 4000000 in
theorem put_full {w:World}{K:Nat→Prop}{r m c:Nat}{s:St}(h:RM w K r m c s)(hK0:K 0)(ht:PTab w)(p:PlanM)(hp:p.Wf)(u:V6)(t v:Int)(k:Nat)(hk:k≤3)(ht0:0≤t∧t≤4294967295)(hv:U32 v)(hn:p.next t=((k:Int),true))(h0:0≤u.uK k)(hu:u.uK k≤p.sK k)(hfit:p.sK k<u.uK k+szK k):
  Calls Tryz.prog 83 #[.pointer (some ⟨r,0,none⟩),p.val,u.val,I t,J v] w fun e w'=>
   e= .returned (.tuple #[I 0,zeros6v.val,I 3])∧RM w' K r m c s∧Keeps K w w':=by
 have zz5:=@c166;exact c164
structure ConfM where
 docs:Int
 terms:Int
 s0:Int
 s1:Int
 s2:Int
 s3:Int
 book:Int
 room:Int
 k:Value
 b:Value
def ConfM.list (c:ConfM):List Value:=[.int .i64 c.docs,.int .i64 c.terms,.int .i64 c.s0,.int .i64 c.s1,.int .i64 c.s2,.int .i64 c.s3,.int .i64 c.book,.int .i64 c.room,c.k,c.b]
structure ConfM.ok (c:ConfM):Prop where
 d0:1≤c.docs
 d1:c.docs≤64
 t0:64≤c.terms
 t1:c.terms≤256
 a0:0≤c.s0
 a1:c.s0≤512
 b0:0≤c.s1
 b1:c.s1≤512
 c0:0≤c.s2
 c1:c.s2≤512
 e0:0≤c.s3
 e1:c.s3≤512
 k0:0≤c.book
 k1:c.book≤65536
 r0:0≤c.room
 r1:c.room≤65536
def ConfM.all (c:ConfM):Int:=3+4*c.s0+16*c.s1+64*c.s2+256*c.s3+c.book+c.room
def ConfM.plan (c:ConfM):PlanM:=
 ⟨⟨3,3+4*c.s0,3+4*c.s0+16*c.s1,3+4*c.s0+16*c.s1+64*c.s2,3+4*c.s0+16*c.s1+64*c.s2+256*c.s3,3+4*c.s0+16*c.s1+64*c.s2+256*c.s3+c.book⟩,
  ⟨4*c.s0,16*c.s1,64*c.s2,256*c.s3,c.book,c.room⟩,c.all,if 256≤c.terms then 512 else if 128≤c.terms then 256 else 128,1+4*c.docs+(if 256≤c.terms then 512 else if 128≤c.terms then 256 else 128)⟩
set_option maxHeartbeats 400000 in
theorem slab_ref (k:Nat)(hk:k≤3)(w:World):
  Calls Tryz.prog 67 #[I k] w fun e w'=>e= .returned (I ((4^(k+1):Nat):Int))∧w'=w:=by
 refine calls_hide fun R' hR'=>?_
 go_enter Tryz.func67,Tryz.ntmps67
 have hk3:(k:Int)≤3:=by omega
 go_wp2_with fail
 go_loop [3,4] (fun n i=>∃j:Nat,j≤k∧i=I j∧n=I ((4^(j+1):Nat):Int)) (fun _ i=>k-(intOf i).toNat)
 case atStart=>exact⟨0,Nat.zero_le _,rfl,rfl⟩
 case round=>
  obtain⟨j,hj,rfl,rfl⟩:=hrel;have hp:4^(j+1)≤4^4:=Nat.pow_le_pow_right (by decide) (by omega)
  have hp2:(4^(j+1+1):Nat)=4^(j+1)*4:=Nat.pow_succ ..;generalize hq:4^(j+1)=q at*;have Hq:=hid hq;have Hp2:=hid hp2;clear hq hp2
  by_cases hlt:j<k
  ·go_wp2_with fail
   go_round
   case rel=>exact⟨j+1,by omega,by go_num,congrArg (Value.int .i64) (by rw[Hp2.out];omega)⟩
   case measure=>simp[intOf];omega
  ·have hjk:j=k:=by omega
   subst hjk
   go_wp2_with fail
   exact hR'.out _ _ ⟨by rw[Hq.out],rfl⟩
theorem slab_at0 (w:World):Calls Tryz.prog 67 #[I 0] w fun e w'=>e= .returned (I 4)∧w'=w:=slab_ref 0 (by omega) w
theorem slab_at1 (w:World):Calls Tryz.prog 67 #[I 1] w fun e w'=>e= .returned (I 16)∧w'=w:=slab_ref 1 (by omega) w
theorem slab_at2 (w:World):Calls Tryz.prog 67 #[I 2] w fun e w'=>e= .returned (I 64)∧w'=w:=slab_ref 2 (by omega) w
theorem slab_at3 (w:World):Calls Tryz.prog 67 #[I 3] w fun e w'=>e= .returned (I 256)∧w'=w:=slab_ref 3 (by omega) w
def szC (c:ConfM):Nat→Int
 |0=>4*c.s0
 |1=>16*c.s1
 |2=>64*c.s2
 |3=>256*c.s3
 |4=>c.book
 |_=>c.room
def baseC (c:ConfM):Nat→Int
 |0=>3
 |k+1=>baseC c k+szC c k
def upto (k:Nat)(f:Nat→Int)(j:Nat):Int:=if j<k then f j else 0
def six (f:Nat→Int):List Value:=[.int .i64 (f 0),.int .i64 (f 1),.int .i64 (f 2),.int .i64 (f 3),.int .i64 (f 4),.int .i64 (f 5)]
set_option maxRecDepth 100000 in
set_option maxHeartbeats 2000000 in
theorem sizes_ok (c:ConfM)(h:c.ok)(w:World):
  Calls Tryz.prog 40 #[.agg c.list.toArray] w fun e w'=>e= .returned (.tuple #[.agg (six (szC c)).toArray,.bool (decide (c.all≤65536))])∧Keeps (· <w.heap.size) w w':=by
 obtain⟨d0,d1,t0,t1,a0,a1,b0,b1,c0,c1,e0,e1,k0,k1,r0,r1⟩:=h;have hall:baseC c 6=c.all:=by unfold ConfM.all;simp only[baseC,szC]
 have Hall:=hid hall;clear hall;obtain⟨docs,terms,s0,s1,s2,s3,book,room,kk,bb⟩:=c;simp only at d0 d1 t0 t1 a0 a1 b0 b1 c0 c1 e0 e1 k0 k1 r0 r1;have zz40:=@c272;exact c271
def needL:Nat→Int→Int→Nat→V6→V6
 |0,_,_,_,out=>out
 |f+1,n,room,k,out=>if n>room then needL f (n-room) (szK k-1) (min (k+1) 3) (out.up k (szK k))else out
def zerosN:V6:=⟨0,0,0,0,0,0⟩
def PlanM.need (p:PlanM)(t n:Int):V6:=
 if(p.next t).2=false then zerosN
 else if(p.next t).1<0 then needL (n.toNat+2) n (szK (p.cls t).1.toNat-1-(p.cls t).2) (min ((p.cls t).1.toNat+1) 3) zerosN
 else needL (n.toNat+2) n 0 (p.next t).1.toNat zerosN
theorem szK_bd (k:Nat):4≤szK k∧szK k≤256:=by
 unfold szK;split<;>omega
theorem cls_mod (p:PlanM)(a:Int){k:Nat}(h:(p.cls a).1=(k:Int)):0≤(p.cls a).2∧(p.cls a).2<szK k:=by
 unfold PlanM.cls at h ⊢
 split at h
 ·rw[if_pos (by assumption)]
  simp only at h ⊢;obtain rfl:k=0:=by omega
  simp only[szK];omega
 ·rw[if_neg (by assumption)]
  split at h
  ·rw[if_pos (by assumption)]
   simp only at h ⊢;obtain rfl:k=1:=by omega
   simp only[szK];omega
  ·rw[if_neg (by assumption)]
   split at h
   ·rw[if_pos (by assumption)]
    simp only at h ⊢;obtain rfl:k=2:=by omega
    simp only[szK];omega
   ·rw[if_neg (by assumption)]
    split at h
    ·rw[if_pos (by assumption)]
     simp only at h ⊢;obtain rfl:k=3:=by omega
     simp only[szK];omega
    ·simp only at h;omega
theorem next_range (p:PlanM)(t:Int)(h:(p.next t).2=true):((p.next t).1= -1∧∃k:Nat,k≤3∧(p.cls t).1=(k:Int)∧0≤(p.cls t).2∧(p.cls t).2+1<szK k)∨∃k:Nat,k≤3∧(p.next t).1=(k:Int):=by
 have hr:=p.cls_range t;unfold PlanM.next at h ⊢
 split
 ·exact Or.inr ⟨0,by omega,rfl⟩
 ·split
  ·rename_i h3
   simp[*]at h
  ·split
   ·rename_i h3 h4 h5
    rcases hr with e|⟨k,hk,e⟩
    ·exact absurd (Or.inl (by omega)) h4
    ·refine Or.inr ⟨min (k+1) 3,by omega,?_⟩
     simp only;rw[e];split<;>omega
   ·rename_i h3 h4 h5
    rcases hr with e|⟨k,hk,e⟩
    ·exact absurd (Or.inl (by omega)) h4
    ·have hm:=cls_mod p t e;rw[e,show((k:Int)).toNat=k from by omega]at h5
     exact Or.inl ⟨rfl,k,hk,e,hm.1,by omega⟩
theorem zerosN_uK (i:Nat):zerosN.uK i=0:=by unfold V6.uK zerosN;split<;>rfl
theorem uK_up {o:V6}{c k:Nat}(hc:c≤3)(hk:k≤3)(z:Int):(o.up c z).uK k=if k=c then o.uK k+z else o.uK k:=by
 have h1:c=0∨c=1∨c=2∨c=3:=by omega
 have h2:k=0∨k=1∨k=2∨k=3:=by omega
 rcases h1 with rfl|rfl|rfl|rfl<;>rcases h2 with rfl|rfl|rfl|rfl<;>simp[V6.up,V6.uK]
set_option maxRecDepth 100000 in
set_option maxHeartbeats 8000000 in
theorem need_call (p:PlanM)(t n:Int)(w:World)(hp:p.Wf)(ht:PTab w)(ha: -9223372036854775808≤t∧t≤9223372036854775807)(hn: -9223372036854775808≤n∧n≤3000):
  Calls Tryz.prog 78 #[p.val,I t,I n] w fun e w'=>e= .returned (p.need t n).val∧Keeps (· <w.heap.size) w w':=by
 have HT:=hid ht;have HP:=hid hp;have HA:=hid ha;obtain⟨n0,n1⟩:=hn;have hmin:min n 1000000=n:=Int.min_eq_left (by omega)
 have hnx:=fun w hw=>next_call p t w HP.out hw HA.out;have hcl:=fun w hw=>class_call p t w HP.out hw HA.out;have hrg:=next_range p t;have HND:Hid (p.need t n=p.need t n):=rfl;clear hp ht ha;refine calls_hide fun R' hR'=>?_;unfold PlanM.need at hR';generalize p.next t=nx at*
 generalize p.cls t=cl at*;obtain⟨x1,x2⟩:=nx;obtain⟨c1,c2⟩:=cl;simp only at hrg hR';unfold PlanM.val at*;have Hrg:=hid hrg;clear hrg
 go_enter Tryz.func78,Tryz.ntmps78
 go_wp2_with fail
 refine calls_gen (fun W=>Blk W w.heap.size p.flat∧Blk W (w.heap.size+1) [I 0,I 0,I 0,I 0,I 0,I 0]∧Blk W (w.heap.size+1+1) [I 0,I 0,I 0,I 0,I 0,I 0]∧Keeps (· <w.heap.size) w W) ⟨?_,?_,?_,?_⟩ (fun W0 HW=>?_)
 ·exact c114
 ·exact bA
 ·exact bA
 ·exact kA
 obtain⟨hA0,hA1,hA2,hkA⟩:=HW;refine(hnx W0 (HT.out.keep hkA HT.out.2.2.2.2)).mono ?_;have zz160:=@c753;exact c752
end Go.Proofs.YtogdknnkhkjmcaaGreatDoor
