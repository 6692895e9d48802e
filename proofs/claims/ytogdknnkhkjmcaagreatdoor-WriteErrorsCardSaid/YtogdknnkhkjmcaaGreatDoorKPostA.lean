/- Lemmas on the programs that the statement reaches. -/
import Derived.Test.YtogdknnkhkjmcaaGreatDoorKPoolT
import Derived.Test.YtogdknnkhkjmcaaGreatDoorKLwD
namespace Go.Proofs.YtogdknnkhkjmcaaGreatDoor
open Go.RowKit
set_option linter.all false
def zeros6v:V6:=⟨0,0,0,0,0,0⟩
def V6.list (u:V6):List Value:=[.int .i64 u.a0,.int .i64 u.a1,.int .i64 u.a2,.int .i64 u.a3,.int .i64 u.a4,.int .i64 u.a5]
def putIn (t v:Int):Tree Unit:= .store (t+1) v (.ret ())
def putNew (t a v:Int):Tree Unit:=if t=0 then .store (a+1) v (.ret ())else .store a t (.store (a+1) v (.ret ()))
set_option maxRecDepth 100000 in
set_option maxHeartbeats 4000000 in
theorem put_in {w:World}{K:Nat→Prop}{r m c:Nat}{s:St}(h:RM w K r m c s)(hK0:K 0)(ht:PTab w)(p:PlanM)(hp:p.Wf)(u:V6)(t v:Int)(ht0:0≤t∧t≤4294967295)(hv:U32 v)(hn:p.next t=(-1,true)):
  Z 83 #[.pointer (some ⟨r,0,none⟩),p.val,u.val,I t,J v] w fun e w'=>
   e= .returned (.tuple #[I (t+1),u.val,I 0])∧RM w' K r m c ((putIn t v).exec s).2∧Keeps K w w':=by
 have zz11:=PLift.up @c177;exact c176
set_option maxRecDepth 100000 in
set_option maxHeartbeats 4000000 in
theorem put_new {w:World}{K:Nat→Prop}{r m c:Nat}{s:St}(h:RM w K r m c s)(hK0:K 0)(ht:PTab w)(p:PlanM)(hp:p.Wf)(u:V6)(t v:Int)(k:Nat)(hk:k≤3)(ht0:0≤t∧t≤4294967295)(hv:U32 v)(hn:p.next t=((k:Int),true))(h0:0≤u.uK k)(hfit:u.uK k+szK k≤p.sK k):
  Z 83 #[.pointer (some ⟨r,0,none⟩),p.val,u.val,I t,J v] w fun e w'=>
   e= .returned (.tuple #[I (p.bK k+u.uK k+1),(u.up k (szK k)).val,I 0])∧RM w' K r m c ((putNew t (p.bK k+u.uK k) v).exec s).2∧Keeps K w w':=by
 have zz5:=PLift.up @c159;exact c158
set_option maxRecDepth 100000 in
set_option maxHeartbeats 4000000 in
theorem put_full {w:World}{K:Nat→Prop}{r m c:Nat}{s:St}(h:RM w K r m c s)(hK0:K 0)(ht:PTab w)(p:PlanM)(hp:p.Wf)(u:V6)(t v:Int)(k:Nat)(hk:k≤3)(ht0:0≤t∧t≤4294967295)(hv:U32 v)(hn:p.next t=((k:Int),true))(h0:0≤u.uK k)(hu:u.uK k≤p.sK k)(hfit:p.sK k<u.uK k+szK k):
  Z 83 #[.pointer (some ⟨r,0,none⟩),p.val,u.val,I t,J v] w fun e w'=>
   e= .returned (.tuple #[I 0,zeros6v.val,I 3])∧RM w' K r m c s∧Keeps K w w':=by
 have zz5:=PLift.up @c160;exact c158
end Go.Proofs.YtogdknnkhkjmcaaGreatDoor
