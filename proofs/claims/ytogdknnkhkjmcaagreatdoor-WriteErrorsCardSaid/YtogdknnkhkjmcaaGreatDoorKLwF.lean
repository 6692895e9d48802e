/- Lemmas on the programs that the statement reaches. -/
import Derived.Test.YtogdknnkhkjmcaaGreatDoorKLwE
import Derived.Test.YtogdknnkhkjmcaaGreatDoorKRcT
namespace Go.Proofs.YtogdknnkhkjmcaaGreatDoor
open Go.RowKit
set_option linter.all false
theorem Blk.keepS {w w':World}{b:Nat}{l:List Value}(k:Keeps (· <w.heap.size) w w')(h:Blk w b l):Blk w' b l:=h.keep k h.lt
set_option maxRecDepth 100000 in
set_option maxHeartbeats 8000000 in
theorem begin_good (C:ConfM)(h:C.ok∧C.all≤5000)(hfu:¬C.plan.size.a5<C.plan.live+2)(w0 w:World)(hT:PTab w)(hk0:Keeps (· <w0.heap.size) w0 w):Z 9 #[.agg C.list.toArray] w fun e w'=>∃X m c st,e= .returned (.tuple #[.pointer (some ⟨X,0,none⟩),.bool true])∧
   Wd w0 w' (fun b=>(b<w0.heap.size∨w.heap.size≤b)∧b<w'.heap.size∧b≠X∧b≠m∧b≠c) X m c C (newC C) (newW C) st∧(w.heap.size≤X∧w.heap.size≤m∧w.heap.size≤c)∧Keeps (· <w.heap.size) w w':=by
 have zz93:=PLift.up @c506;exact c504
end Go.Proofs.YtogdknnkhkjmcaaGreatDoor
