/- The reference of layer 6 (token): contract of Tokens. -/
import Derived.Test.YtogdknnkhkjmcaaGreatDoorJEncP
import Derived.Test.YtogdknnkhkjmcaaGreatDoorJGoodH
namespace Go.Proofs.YtogdknnkhkjmcaaGreatDoor
open Go.RowKit
set_option linter.all false
set_option maxRecDepth 100000 in
set_option maxHeartbeats 4000000 in
theorem ref6_tokens (fs:List ByteArray)(A:Option Addr)(cp:Nat)(w:World)(K:Nat→Prop)(hb:∀b,K b→b<w.heap.size)(hsl:SlAt w K 1 (.slice A fs.length cp) fs.length (fs.map Value.string))(hfl:fs.length≤1000000):
  Calls Tryz.prog 59 #[.slice A fs.length cp] w fun e w'=>(match toksM fs with
   |none=>e= .returned (.tuple #[.slice none 0 0,.int .i64 4])
   |some l=>∃v,e= .returned (.tuple #[v,.int .i64 0])∧TokOwn w' (· <w.heap.size) v l)∧Keeps (· <w.heap.size) w w':=by
 have zz174:=@c811;exact c810
structure AS (w W:World)(B:Nat)(st:List Value)(cf:ConfM)(p:PlanM)(dv:List Value):Prop where
 b0:Blk W B st
 b1:Blk W (B+1) cf.list
 b2:Blk W (B+1+1) p.flat
 b3:Blk W (B+1+1+1) dv
 b4:Blk W (B+1+1+1+1) st0
 kp:Keeps (· <B) w W
section
variable {w W W':World}{B:Nat}{st dv:List Value}{cf:ConfM}{p:PlanM}
theorem AS.keep (h:AS w W B st cf p dv){K:Nat→Prop}(k:Keeps K W W')(hk:∀b,b≤B+1+1+1+1→K b):AS w W' B st cf p dv:=
 ⟨h.b0.keep k (hk _ (by omega)),h.b1.keep k (hk _ (by omega)),h.b2.keep k (hk _ (by omega)),h.b3.keep k (hk _ (by omega)),h.b4.keep k (hk _ (by omega)),h.kp.trans (k.mono fun b hb=>hk b (by have hb:b<B:=hb;omega))⟩
theorem AS.calls (h:AS w W B st cf p dv)(k:Keeps (· <W.heap.size) W W'):AS w W' B st cf p dv:=h.keep k fun b hb=>by have:=h.b4.lt;show b<W.heap.size;omega
theorem SlAt.of_blk9 {w:World}{b n:Nat}{xs:List Value}(h:Blk w b xs)(hl:xs.length=n)(hm:n≤65536):SlAt w (fun c=>c=b) 1 (.slice (some ⟨b,0,none⟩) n n) n xs:=
 ⟨_,_,rfl,Nat.le_refl _,by unfold maxLen;omega,by rw[hl];omega,fun _=>⟨b,0,rfl,rfl,fun j v hv=>by rw[Nat.zero_add,h.cell];exact hv⟩⟩
theorem AS.alloc (h:AS w W B st cf p dv)(bl:Obj):AS w (W.alloc bl) B st cf p dv:=h.calls ((Keeps.refl _ _).alloc (fun b hb=>hb) bl)
def LkAt (cs:List Int)(s0 n:Nat)(y:TermM):Prop:=
 y.recd=(findL cs (s0:Int) n (homeD n (bsL y.key)) y.key n 0).1∧(y.key.size≤900∧(0≤y.cnt∧y.cnt≤64))∧(y.recd≠0→∃rc tl:Nat,y.recd=(rc:Int)∧rc≠0∧cs[rc]? =some (tl:Int)∧y.tl=(tl:Int)∧tl≤65536)∧(y.recd=0→y.tl=0)
end
set_option maxRecDepth 100000 in
set_option maxHeartbeats 4000000 in
theorem radd_long (cs:List Int)(segs:List SegM)(wt wv u0 u1 u2 u3 u4 u5:Int)(cf:ConfM)(p:PlanM)(live:SegM)(id:Int)(fs:List ByteArray)(FA:Option Addr)(fc:Nat)(A:Option Addr)(cp:Nat)(A2:Option Addr)(cp2:Nat)(w:World)(K:Nat→Prop)(hb:∀b,K b→b<w.heap.size)
  (hsl:SlAt w K 1 (.slice A cs.length cp) cs.length (cs.map (Value.int .u32))) (hn0:0<cs.length) (hcn:cs.length≤65536) (hs2:SlAt w K 3 (.slice A2 segs.length cp2) segs.length (segs.flatMap SegM.cells)) (hlive:segs.getLast?=some live) (hn:segs.length≤65536)
  (hok:∀x∈segs,(-1099511627700≤x.addr∧x.addr≤1099511627700)∧x.docs≤65536) (hfl:SlAt w K 1 (.slice FA fs.length fc) fs.length (fs.map Value.string)) (hfn:fs.length≤1000000) (hcf:cf.ok)
  (htk:toksM fs=none):
  Calls Tryz.prog 38 #[.agg #[.slice A cs.length cp,.slice A2 segs.length cp2,I wt,J wv,I u0,I u1,I u2,I u3,I u4,I u5],.agg cf.list.toArray,p.val,.agg #[J id,.slice FA fs.length fc]] w fun e w'=>
   e= .returned (.tuple #[I 4,.agg #[.slice A cs.length cp,.slice A2 segs.length cp2,I wt,J wv,I u0,I u1,I u2,I u3,I u4,I u5]])∧Keeps (· <w.heap.size) w w':=by
 have zz13:=@c189;exact c188
set_option maxRecDepth 100000 in
set_option maxHeartbeats 4000000 in
theorem radd_dup (cs:List Int)(segs:List SegM)(wt wv u0 u1 u2 u3 u4 u5:Int)(cf:ConfM)(p:PlanM)(live:SegM)(id:Int)(fs:List ByteArray)(FA:Option Addr)(fc:Nat)(A:Option Addr)(cp:Nat)(A2:Option Addr)(cp2:Nat)(w:World)(K:Nat→Prop)(hb:∀b,K b→b<w.heap.size)
  (hsl:SlAt w K 1 (.slice A cs.length cp) cs.length (cs.map (Value.int .u32))) (hn0:0<cs.length) (hcn:cs.length≤65536) (hs2:SlAt w K 3 (.slice A2 segs.length cp2) segs.length (segs.flatMap SegM.cells)) (hlive:segs.getLast?=some live) (hn:segs.length≤65536)
  (hok:∀x∈segs,(-1099511627700≤x.addr∧x.addr≤1099511627700)∧x.docs≤65536) (hfl:SlAt w K 1 (.slice FA fs.length fc) fs.length (fs.map Value.string)) (hfn:fs.length≤1000000) (hcf:cf.ok)
  {toks:List TokI} (htk:toksM fs=some toks) {pi pd:Int} (hq:rplaceL cs id segs 0=(pi,pd,true)):
  Calls Tryz.prog 38 #[.agg #[.slice A cs.length cp,.slice A2 segs.length cp2,I wt,J wv,I u0,I u1,I u2,I u3,I u4,I u5],.agg cf.list.toArray,p.val,.agg #[J id,.slice FA fs.length fc]] w fun e w'=>
   e= .returned (.tuple #[I 6,.agg #[.slice A cs.length cp,.slice A2 segs.length cp2,I wt,J wv,I u0,I u1,I u2,I u3,I u4,I u5]])∧Keeps (· <w.heap.size) w w':=by
 have zz13:=@c190;exact c188
set_option maxRecDepth 100000 in
set_option maxHeartbeats 4000000 in
theorem radd_seg (cs:List Int)(segs:List SegM)(wt wv u0 u1 u2 u3 u4 u5:Int)(cf:ConfM)(p:PlanM)(live:SegM)(id:Int)(fs:List ByteArray)(FA:Option Addr)(fc:Nat)(A:Option Addr)(cp:Nat)(A2:Option Addr)(cp2:Nat)(w:World)(K:Nat→Prop)(hb:∀b,K b→b<w.heap.size)
  (hsl:SlAt w K 1 (.slice A cs.length cp) cs.length (cs.map (Value.int .u32))) (hn0:0<cs.length) (hcn:cs.length≤65536) (hs2:SlAt w K 3 (.slice A2 segs.length cp2) segs.length (segs.flatMap SegM.cells)) (hlive:segs.getLast?=some live) (hn:segs.length≤65536)
  (hok:∀x∈segs,(-1099511627700≤x.addr∧x.addr≤1099511627700)∧x.docs≤65536) (hfl:SlAt w K 1 (.slice FA fs.length fc) fs.length (fs.map Value.string)) (hfn:fs.length≤1000000) (hcf:cf.ok)
  {toks:List TokI} (htk:toksM fs=some toks) {pi pd:Int} (hq:rplaceL cs id segs 0=(pi,pd,false)) (hx:cf.docs≤(live.docs:Int)):
  Calls Tryz.prog 38 #[.agg #[.slice A cs.length cp,.slice A2 segs.length cp2,I wt,J wv,I u0,I u1,I u2,I u3,I u4,I u5],.agg cf.list.toArray,p.val,.agg #[J id,.slice FA fs.length fc]] w fun e w'=>
   e= .returned (.tuple #[I 5,.agg #[.slice A cs.length cp,.slice A2 segs.length cp2,I wt,J wv,I u0,I u1,I u2,I u3,I u4,I u5]])∧Keeps (· <w.heap.size) w w':=by
 have zz84:=@c488;exact c487
set_option maxRecDepth 100000 in
set_option maxHeartbeats 4000000 in
theorem radd_terms (cs:List Int)(segs:List SegM)(wt wv u0 u1 u2 u3 u4 u5:Int)(cf:ConfM)(p:PlanM)(live:SegM)(id:Int)(fs:List ByteArray)(FA:Option Addr)(fc:Nat)(A:Option Addr)(cp:Nat)(A2:Option Addr)(cp2:Nat)(w:World)(K:Nat→Prop)(hb:∀b,K b→b<w.heap.size)
  (hsl:SlAt w K 1 (.slice A cs.length cp) cs.length (cs.map (Value.int .u32))) (hn0:0<cs.length) (hcn:cs.length≤65536) (hs2:SlAt w K 3 (.slice A2 segs.length cp2) segs.length (segs.flatMap SegM.cells)) (hlive:segs.getLast?=some live) (hn:segs.length≤65536)
  (hok:∀x∈segs,(-1099511627700≤x.addr∧x.addr≤1099511627700)∧x.docs≤65536) (hfl:SlAt w K 1 (.slice FA fs.length fc) fs.length (fs.map Value.string)) (hfn:fs.length≤1000000) (hcf:cf.ok)
  {toks:List TokI} (htk:toksM fs=some toks) {pi pd:Int} (hq:rplaceL cs id segs 0=(pi,pd,false)) (hx:¬cf.docs≤(live.docs:Int)) (P:Pools) (hP:P.ok) (hl:p.lays P) (hpf:PlanOk p) (s0:Nat) (hs0:live.addr+1+4*cf.docs=(s0:Int)) (hs1:s0≤65536) (hu:∀y∈cs,U32 y) (hwt0:0≤wt∧wt≤65536) (hv:0≤wv∧wv≤4294967294)
  {all:List TermM} (hall:all.map kcOf=keysL toks []) (hlk:∀y∈all,LkAt cs s0 p.slots.toNat y)
  {fr m0 m1 m2 m3 m4 m5:Int} (hnd:needsP p all 0 zero6=(fr,⟨m0,m1,m2,m3,m4,m5⟩)) (hfr:cf.terms-wt<fr):
  Calls Tryz.prog 38 #[.agg #[.slice A cs.length cp,.slice A2 segs.length cp2,I wt,J wv,I u0,I u1,I u2,I u3,I u4,I u5],.agg cf.list.toArray,p.val,.agg #[J id,.slice FA fs.length fc]] w fun e w'=>
   e= .returned (.tuple #[I 5,.agg #[.slice A cs.length cp,.slice A2 segs.length cp2,I wt,J wv,I u0,I u1,I u2,I u3,I u4,I u5]])∧Keeps (· <w.heap.size) w w':=by
 have zz84:=@c489;exact c487
set_option maxRecDepth 100000 in
set_option maxHeartbeats 4000000 in
theorem radd_full (cs:List Int)(segs:List SegM)(wt wv u0 u1 u2 u3 u4 u5:Int)(cf:ConfM)(p:PlanM)(live:SegM)(id:Int)(fs:List ByteArray)(FA:Option Addr)(fc:Nat)(A:Option Addr)(cp:Nat)(A2:Option Addr)(cp2:Nat)(w:World)(K:Nat→Prop)(hb:∀b,K b→b<w.heap.size)
  (hsl:SlAt w K 1 (.slice A cs.length cp) cs.length (cs.map (Value.int .u32))) (hn0:0<cs.length) (hcn:cs.length≤65536) (hs2:SlAt w K 3 (.slice A2 segs.length cp2) segs.length (segs.flatMap SegM.cells)) (hlive:segs.getLast?=some live) (hn:segs.length≤65536)
  (hok:∀x∈segs,(-1099511627700≤x.addr∧x.addr≤1099511627700)∧x.docs≤65536) (hfl:SlAt w K 1 (.slice FA fs.length fc) fs.length (fs.map Value.string)) (hfn:fs.length≤1000000) (hcf:cf.ok)
  {toks:List TokI} (htk:toksM fs=some toks) {pi pd:Int} (hq:rplaceL cs id segs 0=(pi,pd,false)) (hx:¬cf.docs≤(live.docs:Int)) (P:Pools) (hP:P.ok) (hl:p.lays P) (hpf:PlanOk p) (s0:Nat) (hs0:live.addr+1+4*cf.docs=(s0:Int)) (hs1:s0≤65536) (hu:∀y∈cs,U32 y) (hwt0:0≤wt∧wt≤65536) (hv:0≤wv∧wv≤4294967294)
  {all:List TermM} (hall:all.map kcOf=keysL toks []) (hlk:∀y∈all,LkAt cs s0 p.slots.toNat y)
  {fr m0 m1 m2 m3 m4 m5:Int} (hnd:needsP p all 0 zero6=(fr,⟨m0,m1,m2,m3,m4,m5⟩)) (hfr:¬cf.terms-wt<fr) (hui:UIn p ⟨u0,u1,u2,u3,u4,u5⟩) (hfi:fitsP p ⟨u0,u1,u2,u3,u4,u5⟩ ⟨m0,m1,m2,m3,m4,m5⟩=false):
  Calls Tryz.prog 38 #[.agg #[.slice A cs.length cp,.slice A2 segs.length cp2,I wt,J wv,I u0,I u1,I u2,I u3,I u4,I u5],.agg cf.list.toArray,p.val,.agg #[J id,.slice FA fs.length fc]] w fun e w'=>
   e= .returned (.tuple #[I 3,.agg #[.slice A cs.length cp,.slice A2 segs.length cp2,I wt,J wv,I u0,I u1,I u2,I u3,I u4,I u5]])∧Keeps (· <w.heap.size) w w':=by
 have zz83:=@c485;exact c484
end Go.Proofs.YtogdknnkhkjmcaaGreatDoor
