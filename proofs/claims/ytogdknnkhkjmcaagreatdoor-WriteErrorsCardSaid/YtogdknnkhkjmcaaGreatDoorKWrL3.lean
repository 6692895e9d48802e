/- Lemmas on the programs that the statement reaches. -/
import Derived.Test.YtogdknnkhkjmcaaGreatDoorKWrL
namespace Go.Proofs.YtogdknnkhkjmcaaGreatDoor
open Go.RowKit
set_option linter.all false
set_option maxRecDepth 100000 in
set_option maxHeartbeats 8000000 in
theorem play_good (docs terms s0 s1 s2 s3 book room:Int)(kk bb:Value)(d0:1≤docs)(d1:docs≤64)(t0:64≤terms)(t1:terms≤256)(k0:0≤book)(k1:book≤65536)(r0:0≤room)(r1:room≤65536)(o0:0≤s0∧s0≤512)(o1:0≤s1∧s1≤512)(o2:0≤s2∧s2≤512)(o3:0≤s3∧s3≤512)(q:3+s0*4+s1*16+s2*64+s3*256+book+room≤65536)(w:World)(hT:PTab w):
  Z 41 #[.agg #[I docs,I terms,I s0,I s1,I s2,I s3,I book,I room,kk,bb]] w fun e w'=>(∃v:Int,SlotsAt terms v∧terms<v∧e= .returned (.tuple #[.agg #[I (3),I (3+s0*4),I (3+s0*4+s1*16),I (3+s0*4+s1*16+s2*64),I (3+s0*4+s1*16+s2*64+s3*256),I (3+s0*4+s1*16+s2*64+s3*256+book),I (s0*4),I (s1*16),I (s2*64),I (s3*256),I (book),I (room),I (3+s0*4+s1*16+s2*64+s3*256+book+room),I v,I (1+4*docs+v)],I 0]))∧Keeps (· <w.heap.size) w w':=by
 have zz15:=PLift.up @c190;exact c188
end Go.Proofs.YtogdknnkhkjmcaaGreatDoor
