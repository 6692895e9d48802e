/- Lemmas on the programs that the statement reaches. -/
import Derived.Test.YtogdknnkhkjmcaaGreatDoorKLwE
import Derived.Test.YtogdknnkhkjmcaaGreatDoorKRcT
namespace Go.Proofs.YtogdknnkhkjmcaaGreatDoor
open Go.RowKit
set_option linter.all false
set_option maxRecDepth 100000 in
set_option maxHeartbeats 4000000 in
theorem begin_no (C:ConfM)(h:¬(C.ok∧C.all≤5000))(w:World):Z 9 #[.agg C.list.toArray] w fun e w'=>e= .returned (.tuple #[.pointer none,.bool true])∧Keeps (· <w.heap.size) w w':=by
 have hlay:∃(p:PlanM) (e0:Int),(∀W,Z 28 #[.agg C.list.toArray] W fun e w'=>e= .returned (.tuple #[p.val,I e0])∧Keeps (· <W.heap.size) W w')∧(e0≠0∨(e0=0∧5000<p.cells)):=by
  by_cases h2:C.ok∧C.all≤65536
  ·exact⟨C.plan,0,fun W=>lay_yes C h2.1 h2.2 W,Or.inr ⟨rfl,by show 5000<C.all;have:¬C.all≤5000:=fun h3=>h ⟨h2.1,h3⟩;omega⟩⟩
  ·exact⟨PlanM.zero,1,fun W=>lay_no C h2 W,Or.inl (by decide)⟩
 obtain⟨p,e0,hlay,hbad⟩:=hlay;have zz173:=PLift.up @c811;exact c810
set_option maxRecDepth 100000 in
set_option maxHeartbeats 4000000 in
theorem begin_full (C:ConfM)(h:C.ok∧C.all≤5000)(hfu:C.plan.size.a5<C.plan.live+2)(w:World)(hT:PTab w):Z 9 #[.agg C.list.toArray] w fun e w'=>e= .returned (.tuple #[.pointer none,.bool true])∧Keeps (· <w.heap.size) w w':=by
 have zz96:=PLift.up @c526;exact c525
theorem Blk.keepS {w w':World}{b:Nat}{l:List Value}(k:Keeps (· <w.heap.size) w w')(h:Blk w b l):Blk w' b l:=h.keep k h.lt
set_option maxRecDepth 100000 in
set_option maxHeartbeats 8000000 in
theorem begin_good (C:ConfM)(h:C.ok∧C.all≤5000)(hfu:¬C.plan.size.a5<C.plan.live+2)(w0 w:World)(hT:PTab w)(hk0:Keeps (· <w0.heap.size) w0 w):Z 9 #[.agg C.list.toArray] w fun e w'=>∃X m c st,e= .returned (.tuple #[.pointer (some ⟨X,0,none⟩),.bool true])∧
   Wd w0 w' (fun b=>(b<w0.heap.size∨w.heap.size≤b)∧b<w'.heap.size∧b≠X∧b≠m∧b≠c) X m c C (newC C) (newW C) st∧(w.heap.size≤X∧w.heap.size≤m∧w.heap.size≤c)∧Keeps (· <w.heap.size) w w':=by
 have zz96:=PLift.up @c527;exact c525
end Go.Proofs.YtogdknnkhkjmcaaGreatDoor
