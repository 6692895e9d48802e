/- Lemmas on the programs that the statement reaches. -/
import Derived.Test.YtogdknnkhkjmcaaGreatDoorKLay
namespace Go.Proofs.YtogdknnkhkjmcaaGreatDoor
open Go.RowKit
set_option linter.all false
theorem BlkN.of15 {w:World}{b:Nat}{v0 v1 v2 v3 v4 v5 v6 v7 v8 v9 v10 v11 v12 v13 v14:Value}(h:Blk w b [v0,v1,v2,v3,v4,v5,v6,v7,v8,v9,v10,v11,v12,v13,v14]):BlkN w b 15:=⟨_,h,rfl⟩
theorem BlkN.set15 {w:World}{b:Nat}(h:BlkN w b 15)(v0 v1 v2 v3 v4 v5 v6 v7 v8 v9 v10 v11 v12 v13 v14:Value):
  Blk (((((((((((((((w.setCell ⟨b,0,none⟩ v0).setCell ⟨b,1,none⟩ v1).setCell ⟨b,2,none⟩ v2).setCell ⟨b,3,none⟩ v3).setCell ⟨b,4,none⟩ v4).setCell ⟨b,5,none⟩ v5).setCell ⟨b,6,none⟩ v6).setCell ⟨b,7,none⟩ v7).setCell ⟨b,8,none⟩ v8).setCell ⟨b,9,none⟩ v9).setCell ⟨b,10,none⟩ v10).setCell ⟨b,11,none⟩ v11).setCell ⟨b,12,none⟩ v12).setCell ⟨b,13,none⟩ v13).setCell ⟨b,14,none⟩ v14) b [v0,v1,v2,v3,v4,v5,v6,v7,v8,v9,v10,v11,v12,v13,v14]:=by
 obtain⟨l,h1,h2⟩:=h
 match l,h2 with
 | [x0,x1,x2,x3,x4,x5,x6,x7,x8,x9,x10,x11,x12,x13,x14],_=>exact(((((((((((((((h1.set 0 v0).set 1 v1).set 2 v2).set 3 v3).set 4 v4).set 5 v5).set 6 v6).set 7 v7).set 8 v8).set 9 v9).set 10 v10).set 11 v11).set 12 v12).set 13 v13).set 14 v14)
set_option maxRecDepth 100000 in
set_option maxHeartbeats 1000000 in
theorem lay_small (c:ConfM)(h:c.ok)(ht:c.terms<128)(hall:c.all≤65536)(w:World):
  Z 28 #[.agg c.list.toArray] w fun e w'=>e= .returned (.tuple #[c.plan.val,I 0])∧Keeps (· <w.heap.size) w w':=by
 have zz144:=PLift.up @c686;exact c685
end Go.Proofs.YtogdknnkhkjmcaaGreatDoor
