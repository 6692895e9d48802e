/- Lemmas on the programs that the statement reaches. -/
import Derived.Test.YtogdknnkhkjmcaaGreatDoorKRcN
namespace Go.Proofs.YtogdknnkhkjmcaaGreatDoor
open Go.RowKit
set_option linter.all false
theorem blk_out15 {w:World}{b:Nat}{l:List Value}(h:Blk w b l)(hl:l.length=15)(v0 v1 v2 v3 v4 v5 v6 v7 v8 v9 v10 v11 v12 v13 v14:Value):Blk (((((((((((((((w.setCell ⟨b,0,none⟩ (v0)).setCell ⟨b,1,none⟩ (v1)).setCell ⟨b,2,none⟩ (v2)).setCell ⟨b,3,none⟩ (v3)).setCell ⟨b,4,none⟩ (v4)).setCell ⟨b,5,none⟩ (v5)).setCell ⟨b,6,none⟩ (v6)).setCell ⟨b,7,none⟩ (v7)).setCell ⟨b,8,none⟩ (v8)).setCell ⟨b,9,none⟩ (v9)).setCell ⟨b,10,none⟩ (v10)).setCell ⟨b,11,none⟩ (v11)).setCell ⟨b,12,none⟩ (v12)).setCell ⟨b,13,none⟩ (v13)).setCell ⟨b,14,none⟩ (v14)) b [v0,v1,v2,v3,v4,v5,v6,v7,v8,v9,v10,v11,v12,v13,v14]:=by
 have h2:=(((((((((((((((h.set 0 v0).set 1 v1).set 2 v2).set 3 v3).set 4 v4).set 5 v5).set 6 v6).set 7 v7).set 8 v8).set 9 v9).set 10 v10).set 11 v11).set 12 v12).set 13 v13).set 14 v14)
 match l,hl with
 | [a0,a1,a2,a3,a4,a5,a6,a7,a8,a9,a10,a11,a12,a13,a14],_=>exact h2
theorem keeps_out15 {K:Nat→Prop}{w0 w:World}{b:Nat}(h:Keeps K w0 w)(hb:¬K b)(v0 v1 v2 v3 v4 v5 v6 v7 v8 v9 v10 v11 v12 v13 v14:Value):Keeps K w0 (((((((((((((((w.setCell ⟨b,0,none⟩ (v0)).setCell ⟨b,1,none⟩ (v1)).setCell ⟨b,2,none⟩ (v2)).setCell ⟨b,3,none⟩ (v3)).setCell ⟨b,4,none⟩ (v4)).setCell ⟨b,5,none⟩ (v5)).setCell ⟨b,6,none⟩ (v6)).setCell ⟨b,7,none⟩ (v7)).setCell ⟨b,8,none⟩ (v8)).setCell ⟨b,9,none⟩ (v9)).setCell ⟨b,10,none⟩ (v10)).setCell ⟨b,11,none⟩ (v11)).setCell ⟨b,12,none⟩ (v12)).setCell ⟨b,13,none⟩ (v13)).setCell ⟨b,14,none⟩ (v14)):=
 (((((((((((((((h.setCell (p:=⟨b,0,none⟩) hb v0).setCell (p:=⟨b,1,none⟩) hb v1).setCell (p:=⟨b,2,none⟩) hb v2).setCell (p:=⟨b,3,none⟩) hb v3).setCell (p:=⟨b,4,none⟩) hb v4).setCell (p:=⟨b,5,none⟩) hb v5).setCell (p:=⟨b,6,none⟩) hb v6).setCell (p:=⟨b,7,none⟩) hb v7).setCell (p:=⟨b,8,none⟩) hb v8).setCell (p:=⟨b,9,none⟩) hb v9).setCell (p:=⟨b,10,none⟩) hb v10).setCell (p:=⟨b,11,none⟩) hb v11).setCell (p:=⟨b,12,none⟩) hb v12).setCell (p:=⟨b,13,none⟩) hb v13).setCell (p:=⟨b,14,none⟩) hb v14)
def zp15:List Value:=[.int .i64 0,.int .i64 0,.int .i64 0,.int .i64 0,.int .i64 0,.int .i64 0,.int .i64 0,.int .i64 0,.int .i64 0,.int .i64 0,.int .i64 0,.int .i64 0,.int .i64 0,.int .i64 0,.int .i64 0]
set_option maxRecDepth 100000 in
set_option maxHeartbeats 4000000 in
theorem ref12_new_full (cf:ConfM)(hcf:cf.ok)(hall:cf.all≤65536)(w:World)(hfu:cf.plan.size.a5<cf.plan.live+2):
  Z 32 #[.agg cf.list.toArray] w fun e w'=>e= .returned (.tuple #[.agg st0.toArray,cf.plan.val,I 3])∧Keeps (· <w.heap.size) w w':=by
 have zz8:=PLift.up @c168;exact c167
def newL (cf:ConfM)(n:Nat):List Int:=(((List.replicate n (0:Int)).set (cf.plan.base.a5+cf.plan.live).toNat 1).set (cf.plan.base.a5+cf.plan.live+1).toNat cf.plan.base.a5).set 2 (cf.plan.base.a5+cf.plan.live)
set_option maxRecDepth 100000 in
set_option maxHeartbeats 4000000 in
theorem ref12_new_good (cf:ConfM)(hcf:cf.ok)(hall:cf.all≤65536)(w:World)(n:Nat)(hn:cf.all=(n:Int))(hfu:¬cf.plan.size.a5<cf.plan.live+2):
  Z 32 #[.agg cf.list.toArray] w fun e w'=>∃NB GB,e= .returned (.tuple #[.agg #[.slice (some ⟨NB,0,none⟩) n n,.slice (some ⟨GB,0,none⟩) 1 1,I 0,J 0,I 0,I 0,I 0,I 0,I 0,I (cf.plan.live+2)],cf.plan.val,I 0])∧w.heap.size≤NB∧w.heap.size≤GB∧Blk w' NB ((newL cf n).map (Value.int .u32))∧Blk w' GB (SegM.cells ⟨cf.plan.base.a5,0,false⟩)∧Keeps (· <w.heap.size) w w':=by
 have Hcn0:=hid (show cf.plan.cells=(n:Int)from hn)
 unfold newL;have zz8:=PLift.up @c169;exact c167
end Go.Proofs.YtogdknnkhkjmcaaGreatDoor
