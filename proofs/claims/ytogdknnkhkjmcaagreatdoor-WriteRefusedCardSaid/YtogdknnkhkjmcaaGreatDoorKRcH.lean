/- Lemmas on the programs that the statement reaches. -/
import Derived.Test.YtogdknnkhkjmcaaGreatDoorKWrS
namespace Go.Proofs.YtogdknnkhkjmcaaGreatDoor
open Go.RowKit
set_option linter.all false
set_option maxRecDepth 100000 in
set_option maxHeartbeats 2000000 in
theorem rtake0 (p:PlanM)(u:V6)(n:Int)(w:World)(h1:1≤n)(h0:0≤u.a0)(h2:u.a0+n≤p.size.a0)(h3:p.size.a0≤65536)(hb:0≤p.base.a0∧p.base.a0≤65536):
  Z 108 #[p.val,u.val,I 0,I n] w fun e w'=>
   e= .returned (.tuple #[I (p.base.a0+u.a0),V6.val { u with a0:=u.a0+n },I 0])∧Keeps (· <w.heap.size) w w':=by
 have zz121:=PLift.up @c616;exact c615
set_option maxRecDepth 100000 in
set_option maxHeartbeats 2000000 in
theorem rtake1 (p:PlanM)(u:V6)(n:Int)(w:World)(h1:1≤n)(h0:0≤u.a1)(h2:u.a1+n≤p.size.a1)(h3:p.size.a1≤65536)(hb:0≤p.base.a1∧p.base.a1≤65536):
  Z 108 #[p.val,u.val,I 1,I n] w fun e w'=>
   e= .returned (.tuple #[I (p.base.a1+u.a1),V6.val { u with a1:=u.a1+n },I 0])∧Keeps (· <w.heap.size) w w':=by
 have zz121:=PLift.up @c617;exact c615
set_option maxRecDepth 100000 in
set_option maxHeartbeats 2000000 in
theorem rtake2 (p:PlanM)(u:V6)(n:Int)(w:World)(h1:1≤n)(h0:0≤u.a2)(h2:u.a2+n≤p.size.a2)(h3:p.size.a2≤65536)(hb:0≤p.base.a2∧p.base.a2≤65536):
  Z 108 #[p.val,u.val,I 2,I n] w fun e w'=>
   e= .returned (.tuple #[I (p.base.a2+u.a2),V6.val { u with a2:=u.a2+n },I 0])∧Keeps (· <w.heap.size) w w':=by
 have zz121:=PLift.up @c618;exact c615
set_option maxRecDepth 100000 in
set_option maxHeartbeats 2000000 in
theorem rtake3 (p:PlanM)(u:V6)(n:Int)(w:World)(h1:1≤n)(h0:0≤u.a3)(h2:u.a3+n≤p.size.a3)(h3:p.size.a3≤65536)(hb:0≤p.base.a3∧p.base.a3≤65536):
  Z 108 #[p.val,u.val,I 3,I n] w fun e w'=>
   e= .returned (.tuple #[I (p.base.a3+u.a3),V6.val { u with a3:=u.a3+n },I 0])∧Keeps (· <w.heap.size) w w':=by
 have zz121:=PLift.up @c619;exact c615
set_option maxRecDepth 100000 in
set_option maxHeartbeats 2000000 in
theorem rtake4 (p:PlanM)(u:V6)(n:Int)(w:World)(h1:1≤n)(h0:0≤u.a4)(h2:u.a4+n≤p.size.a4)(h3:p.size.a4≤65536)(hb:0≤p.base.a4∧p.base.a4≤65536):
  Z 108 #[p.val,u.val,I 4,I n] w fun e w'=>
   e= .returned (.tuple #[I (p.base.a4+u.a4),V6.val { u with a4:=u.a4+n },I 0])∧Keeps (· <w.heap.size) w w':=by
 have zz121:=PLift.up @c620;exact c615
end Go.Proofs.YtogdknnkhkjmcaaGreatDoor
