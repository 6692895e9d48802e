/- Lemmas on the programs that the statement reaches. -/
import Derived.Test.YtogdknnkhkjmcaaGreatDoorKLayG
namespace Go.Proofs.YtogdknnkhkjmcaaGreatDoor
open Go.RowKit
set_option linter.all false
set_option maxRecDepth 100000 in
set_option maxHeartbeats 1000000 in
theorem lay_mid (c:ConfM)(h:c.ok)(ht:128≤c.terms)(ht2:c.terms<256)(hall:c.all≤65536)(w:World):
  Z 28 #[.agg c.list.toArray] w fun e w'=>e= .returned (.tuple #[c.plan.val,I 0])∧Keeps (· <w.heap.size) w w':=by
 have zz10:=PLift.up @c174;exact c173
set_option maxRecDepth 100000 in
set_option maxHeartbeats 1000000 in
theorem lay_big (c:ConfM)(h:c.ok)(ht:256≤c.terms)(ht2:128≤c.terms)(hall:c.all≤65536)(w:World):
  Z 28 #[.agg c.list.toArray] w fun e w'=>e= .returned (.tuple #[c.plan.val,I 0])∧Keeps (· <w.heap.size) w w':=by
 have zz10:=PLift.up @c175;exact c173
def PlanM.zero:PlanM:=⟨⟨0,0,0,0,0,0⟩,⟨0,0,0,0,0,0⟩,0,0,0⟩
theorem lay_yes (c:ConfM)(h:c.ok)(hall:c.all≤65536)(w:World):
  Z 28 #[.agg c.list.toArray] w fun e w'=>e= .returned (.tuple #[c.plan.val,I 0])∧Keeps (· <w.heap.size) w w':=by
 by_cases h1:c.terms<128
 ·exact lay_small c h h1 hall w
 ·by_cases h2:c.terms<256
  ·exact lay_mid c h (by omega) h2 hall w
  ·exact lay_big c h (by omega) (by omega) hall w
end Go.Proofs.YtogdknnkhkjmcaaGreatDoor
