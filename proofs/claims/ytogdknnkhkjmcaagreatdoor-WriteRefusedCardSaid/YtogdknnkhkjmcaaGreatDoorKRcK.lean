/- Lemmas on the programs that the statement reaches. -/
import Derived.Test.YtogdknnkhkjmcaaGreatDoorKRcG
namespace Go.Proofs.YtogdknnkhkjmcaaGreatDoor
open Go.RowKit
set_option linter.all false
set_option maxRecDepth 100000 in
set_option maxHeartbeats 4000000 in
theorem ref9_putIn (cs:List Int)(p:PlanM)(P:Pools)(hP:P.ok)(hl:p.lays P)(u:V6)(t:Nat)(wd:Int)(A:Option Addr)(cp:Nat)(w:World)(K:Nat→Prop)(hb:∀b,K b→b<w.heap.size)(hsl:SlAt w K 1 (.slice A cs.length cp) cs.length (cs.map (Value.int .u32)))(hn0:0<cs.length)(hn:cs.length≤65536)
  (ht:(t:Int)≤65536) (hnx:p.next (t:Int)=(-1,true)) (htl:t+1<cs.length):
  Z 95 #[.slice A cs.length cp,p.val,u.val,I (t:Int),J wd] w fun e w'=>∃nb,e= .returned (.tuple #[.slice (some ⟨nb,0,none⟩) cs.length cs.length,I ((t:Int)+1),u.val,I 0])∧w.heap.size≤nb∧
    Blk w' nb ((cs.set (t+1) wd).map (Value.int .u32))∧Keeps (· <w.heap.size) w w':=by
 have zz8:=PLift.up @c174;exact c173
theorem rtakeK (p:PlanM)(u:V6)(k:Nat)(w:World)(hk:k≤3)(h0:0≤u.uK k)(h2:u.uK k+szK k≤p.sK k)(h3:p.sK k≤65536)(hb:0≤p.bK k∧p.bK k≤65536):
  Z 108 #[p.val,u.val,I (k:Int),I (szK k)] w fun e w'=>e= .returned (.tuple #[I (p.bK k+u.uK k),(u.up k (szK k)).val,I 0])∧Keeps (· <w.heap.size) w w':=by
 have hc:k=0∨k=1∨k=2∨k=3:=by omega
 rcases hc with rfl|rfl|rfl|rfl
 ·exact rtake0 p u 4 w (by decide) h0 h2 h3 hb
 ·exact rtake1 p u 16 w (by decide) h0 h2 h3 hb
 ·exact rtake2 p u 64 w (by decide) h0 h2 h3 hb
 ·exact rtake3 p u 256 w (by decide) h0 h2 h3 hb
theorem slabK (k:Nat)(hk:k≤3)(w:World):Z 67 #[I (k:Int)] w fun e w'=>e= .returned (I (szK k))∧w'=w:=by
 have hc:k=0∨k=1∨k=2∨k=3:=by omega
 rcases hc with rfl|rfl|rfl|rfl<;>exact slab_ref _ hk w
set_option maxRecDepth 100000 in
set_option maxHeartbeats 4000000 in
theorem ref9_putNew (cs:List Int)(p:PlanM)(P:Pools)(hP:P.ok)(hl:p.lays P)(u:V6)(t:Nat)(wd:Int)(A:Option Addr)(cp:Nat)(w:World)(K:Nat→Prop)(hb:∀b,K b→b<w.heap.size)(hsl:SlAt w K 1 (.slice A cs.length cp) cs.length (cs.map (Value.int .u32)))(hn0:0<cs.length)(hn:cs.length≤65536)
  (ht:(t:Int)≤65536) {k a:Nat} (hk:k≤3) (hnx:p.next (t:Int)=((k:Int),true)) (h0:0≤u.uK k) (h2:u.uK k+szK k≤p.sK k) (hpa:p.bK k+u.uK k=(a:Int)) (hal:a+1<cs.length):
  Z 95 #[.slice A cs.length cp,p.val,u.val,I (t:Int),J wd] w fun e w'=>∃nb,e= .returned (.tuple #[.slice (some ⟨nb,0,none⟩) cs.length cs.length,I ((a:Int)+1),(u.up k (szK k)).val,I 0])∧w.heap.size≤nb∧
    Blk w' nb ((putMem cs t a wd).map (Value.int .u32))∧Keeps (· <w.heap.size) w w':=by
 have htk:=fun W=>rtakeK p u k W hk h0 h2 ((hl.wf hP).s k).2 ((hl.wf hP).b k);rw[hpa]at htk;have hsb:=fun W=>slabK k hk W;generalize u.up k (szK k)=un at*;generalize szK k=z at*;obtain⟨n0,n1,n2,n3,n4,n5⟩:=un;clear h0 h2 hpa;have Htk:=hid htk;have Hsb:=hid hsb;clear htk hsb;have zz8:=PLift.up @c175;exact c173
end Go.Proofs.YtogdknnkhkjmcaaGreatDoor
