/- Lemmas on the programs that the statement reaches. -/
import Derived.Test.YtogdknnkhkjmcaaGreatDoorKRcN
namespace Go.Proofs.YtogdknnkhkjmcaaGreatDoor
open Go.RowKit
set_option linter.all false
set_option maxRecDepth 100000 in
set_option maxHeartbeats 4000000 in
theorem radd_terms (cs:List Int)(segs:List SegM)(wt wv u0 u1 u2 u3 u4 u5:Int)(cf:ConfM)(p:PlanM)(live:SegM)(id:Int)(fs:List ByteArray)(FA:Option Addr)(fc:Nat)(A:Option Addr)(cp:Nat)(A2:Option Addr)(cp2:Nat)(w:World)(K:Nat→Prop)(hb:∀b,K b→b<w.heap.size)
  (hsl:SlAt w K 1 (.slice A cs.length cp) cs.length (cs.map (Value.int .u32))) (hn0:0<cs.length) (hcn:cs.length≤65536) (hs2:SlAt w K 3 (.slice A2 segs.length cp2) segs.length (segs.flatMap SegM.cells)) (hlive:segs.getLast?=some live) (hn:segs.length≤65536)
  (hok:∀x∈segs,(-1099511627700≤x.addr∧x.addr≤1099511627700)∧x.docs≤65536) (hfl:SlAt w K 1 (.slice FA fs.length fc) fs.length (fs.map Value.string)) (hfn:fs.length≤1000000) (hcf:cf.ok)
  {toks:List TokI} (htk:toksM fs=some toks) {pi pd:Int} (hq:rplaceL cs id segs 0=(pi,pd,false)) (hx:¬cf.docs≤(live.docs:Int)) (P:Pools) (hP:P.ok) (hl:p.lays P) (hpf:PlanOk p) (s0:Nat) (hs0:live.addr+1+4*cf.docs=(s0:Int)) (hs1:s0≤65536) (hu:∀y∈cs,U32 y) (hwt0:0≤wt∧wt≤65536) (hv:0≤wv∧wv≤4294967294)
  {all:List TermM} (hall:all.map kcOf=keysL toks []) (hlk:∀y∈all,LkAt cs s0 p.slots.toNat y)
  {fr m0 m1 m2 m3 m4 m5:Int} (hnd:needsP p all 0 zero6=(fr,⟨m0,m1,m2,m3,m4,m5⟩)) (hfr:cf.terms-wt<fr):
  Z 38 #[.agg #[.slice A cs.length cp,.slice A2 segs.length cp2,I wt,J wv,I u0,I u1,I u2,I u3,I u4,I u5],.agg cf.list.toArray,p.val,.agg #[J id,.slice FA fs.length fc]] w fun e w'=>
   e= .returned (.tuple #[I 5,.agg #[.slice A cs.length cp,.slice A2 segs.length cp2,I wt,J wv,I u0,I u1,I u2,I u3,I u4,I u5]])∧Keeps (· <w.heap.size) w w':=by
 have zz79:=PLift.up @c463;exact c461
end Go.Proofs.YtogdknnkhkjmcaaGreatDoor
