/- Lemmas on the programs that the statement reaches. -/
import Derived.Test.YtogdknnkhkjmcaaGreatDoorKWrS
import Derived.Test.YtogdknnkhkjmcaaGreatDoorKLayH
namespace Go.Proofs.YtogdknnkhkjmcaaGreatDoor
open Go.RowKit
set_option linter.all false
theorem Blk.set15 {w:World}{b:Nat}{l:List Value}(h:Blk w b l)(v0 v1 v2 v3 v4 v5 v6 v7 v8 v9 v10 v11 v12 v13 v14:Value)(hl:l.length=15):
  Blk (((((((((((((((w.setCell ⟨b,0,none⟩ v0).setCell ⟨b,1,none⟩ v1).setCell ⟨b,2,none⟩ v2).setCell ⟨b,3,none⟩ v3).setCell ⟨b,4,none⟩ v4).setCell ⟨b,5,none⟩ v5).setCell ⟨b,6,none⟩ v6).setCell ⟨b,7,none⟩ v7).setCell ⟨b,8,none⟩ v8).setCell ⟨b,9,none⟩ v9).setCell ⟨b,10,none⟩ v10).setCell ⟨b,11,none⟩ v11).setCell ⟨b,12,none⟩ v12).setCell ⟨b,13,none⟩ v13).setCell ⟨b,14,none⟩ v14) b [v0,v1,v2,v3,v4,v5,v6,v7,v8,v9,v10,v11,v12,v13,v14]:=by
 have:=((((((((((((((h.set 0 v0).set 1 v1).set 2 v2).set 3 v3).set 4 v4).set 5 v5).set 6 v6).set 7 v7).set 8 v8).set 9 v9).set 10 v10).set 11 v11).set 12 v12).set 13 v13).set 14 v14
 match l,hl with
 | [a0,a1,a2,a3,a4,a5,a6,a7,a8,a9,a10,a11,a12,a13,a14],_=>exact this
theorem Keeps.set15 {K:Nat→Prop}{w0 w:World}{b:Nat}(h:Keeps K w0 w)(hb:¬K b)(v0 v1 v2 v3 v4 v5 v6 v7 v8 v9 v10 v11 v12 v13 v14:Value):
  Keeps K w0 (((((((((((((((w.setCell ⟨b,0,none⟩ v0).setCell ⟨b,1,none⟩ v1).setCell ⟨b,2,none⟩ v2).setCell ⟨b,3,none⟩ v3).setCell ⟨b,4,none⟩ v4).setCell ⟨b,5,none⟩ v5).setCell ⟨b,6,none⟩ v6).setCell ⟨b,7,none⟩ v7).setCell ⟨b,8,none⟩ v8).setCell ⟨b,9,none⟩ v9).setCell ⟨b,10,none⟩ v10).setCell ⟨b,11,none⟩ v11).setCell ⟨b,12,none⟩ v12).setCell ⟨b,13,none⟩ v13).setCell ⟨b,14,none⟩ v14):=
 ((((((((((((((h.setCell hb v0).setCell hb v1).setCell hb v2).setCell hb v3).setCell hb v4).setCell hb v5).setCell hb v6).setCell hb v7).setCell hb v8).setCell hb v9).setCell hb v10).setCell hb v11).setCell hb v12).setCell hb v13).setCell hb v14
set_option maxHeartbeats 400000 in
theorem between_no (n lo hi:Int)(w:World)(h:¬(lo≤n∧n≤hi)):
  Z 68 #[I n,I lo,I hi] w fun e w'=>e= .returned (.bool false)∧w'=w:=by
 refine calls_hide fun R' hR'=>?_
 by_cases h1:lo≤n
 ·have h2:¬n≤hi:=fun e=>h ⟨h1,e⟩;clear h
  go_enter Tryz.func68,Tryz.ntmps68
  exact c84
 ·clear h
  go_enter Tryz.func68,Tryz.ntmps68
  exact c84
set_option maxRecDepth 100000 in
set_option maxHeartbeats 4000000 in
theorem play_out (c:ConfM)(h:c.docs<1∨c.docs>64∨c.terms<64∨c.terms>256∨c.book<0∨c.book>65536∨c.room<0∨c.room>65536)(w:World):
  Z 41 #[.agg c.list.toArray] w fun e w'=>e= .returned (.tuple #[PlanM.zero.val,I 1])∧Keeps (· <w.heap.size) w w':=by
 obtain⟨docs,terms,s0,s1,s2,s3,book,room,kk,bb⟩:=c;simp only at h;refine calls_hide fun R' hR'=>?_;unfold ConfM.list
 go_enter Tryz.func41,Tryz.ntmps41
 by_cases q0:1≤docs∧docs≤64
 rotate_left
 ·have Hd:=hid (fun W=>between_no docs 1 64 W (by omega))
  clear h q0
  go_wp2_with (go_at_call 68;first|(with_reducible refine(Hd.out _).mono ?_;rintro e w9 ⟨rfl,rfl⟩))
  exact c17
 by_cases q1:64≤terms∧terms≤256
 rotate_left
 ·have Hd:=hid (fun W=>between_yes docs 1 64 W (by omega))
  have Ht:=hid (fun W=>between_no terms 64 256 W (by omega))
  clear h q0 q1
  go_wp2_with (go_at_call 68;first|(with_reducible refine(Hd.out _).mono ?_;rintro e w9 ⟨rfl,rfl⟩)|(with_reducible refine(Ht.out _).mono ?_;rintro e w9 ⟨rfl,rfl⟩))
  exact c17
 by_cases q2:0≤book∧book≤65536
 rotate_left
 ·have Hd:=hid (fun W=>between_yes docs 1 64 W (by omega))
  have Ht:=hid (fun W=>between_yes terms 64 256 W (by omega))
  have Hk:=hid (fun W=>between_no book 0 65536 W (by omega))
  clear h q0 q1 q2
  go_wp2_with (go_at_call 68;first|(with_reducible refine(Hd.out _).mono ?_;rintro e w9 ⟨rfl,rfl⟩)|(with_reducible refine(Ht.out _).mono ?_;rintro e w9 ⟨rfl,rfl⟩)|(with_reducible refine(Hk.out _).mono ?_;rintro e w9 ⟨rfl,rfl⟩))
  exact c17
 have zz117:=PLift.up @c595;exact c594
end Go.Proofs.YtogdknnkhkjmcaaGreatDoor
