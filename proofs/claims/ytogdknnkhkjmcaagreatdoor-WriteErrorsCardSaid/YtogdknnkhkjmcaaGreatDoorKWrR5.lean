/- Lemmas on the programs that the statement reaches. -/
import Derived.Test.YtogdknnkhkjmcaaGreatDoorKRcJ
import Derived.Test.YtogdknnkhkjmcaaGreatDoorKWrL4
namespace Go.Proofs.YtogdknnkhkjmcaaGreatDoor
open Go.RowKit
set_option linter.all false
set_option maxRecDepth 100000 in
set_option maxHeartbeats 4000000 in
theorem add_terms {w:World}{K:Nat→Prop}{r m c:Nat}{s:St}(h:RM w K r m c s)(hK0:K 0)(hT:PTab w)(hF:FoldTab w)(cf:ConfM)(hcf:cf.ok∧cf.all≤65536)(W:WrM)(live:SegM)(A:Option Addr)(cp:Nat)(id:Int)(fs:List ByteArray)(FA:Option Addr)(fc:Nat)
  (hlive:W.segs.getLast?=some live) (hsl:SlAt w K 3 (.slice A W.segs.length cp) W.segs.length (W.segs.flatMap SegM.cells)) (hfl:SlAt w K 1 (.slice FA fs.length fc) fs.length (fs.map Value.string)) (hfn:fs.length≤1000000)
  (hok:∀x∈W.segs,(-1099511627700≤x.addr∧x.addr≤1099511627700)∧x.docs≤65536) (hn:W.segs.length≤65536) (hi:U32 id) (hv:0≤W.ver∧W.ver≤4294967294) (hu:UIn cf.plan W.used) (htm:0≤W.terms∧W.terms≤65536) (hlb:0≤live.base∧live.base≤65000)
  {toks:List TokI} (htk:toksM fs=some toks) {pi pd:Int} {sp:St} (hq:(placeT id W.segs 0).exec s=((pi,pd,false),sp)) (ho1:sp.isOff=false) (hx:¬cf.docs≤(live.docs:Int)) {all:List TermM} {sy:St} (hy:(termsT (live.base+4*cf.docs) cf.plan.slots.toNat toks []).exec sp=(all,sy)) {fr m0 m1 m2 m3 m4 m5:Int} (hnd:needsP cf.plan all 0 zero6=(fr,⟨m0,m1,m2,m3,m4,m5⟩)) (ho2:sy.isOff=false) (hfr:cf.terms-W.terms<fr):
  Z 36 #[.pointer (some ⟨r,0,none⟩),.agg cf.list.toArray,.agg (W.vals (.slice A W.segs.length cp)).toArray,.agg #[J id,.slice FA fs.length fc]] w fun e w'=>
   (e= .returned (.tuple #[.agg (W.vals (.slice A W.segs.length cp)).toArray,I 5])∧RM w' K r m c sy)∧Keeps K w w':=by
 have zz1:=PLift.up @c147;exact c146
end Go.Proofs.YtogdknnkhkjmcaaGreatDoor
