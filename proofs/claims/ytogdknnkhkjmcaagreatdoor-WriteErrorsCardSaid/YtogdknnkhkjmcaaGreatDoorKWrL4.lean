/- Lemmas on the programs that the statement reaches. -/
import Derived.Test.YtogdknnkhkjmcaaGreatDoorKWrL2
import Derived.Test.YtogdknnkhkjmcaaGreatDoorKWrL3
namespace Go.Proofs.YtogdknnkhkjmcaaGreatDoor
open Go.RowKit
set_option linter.all false
theorem pool_lay (c:ConfM)(w:World)(hT:PTab w):
  Z 41 #[.agg c.list.toArray] w fun e w'=>((c.ok∧c.all≤65536)∧e= .returned (.tuple #[c.plan.val,I 0])∨¬(c.ok∧c.all≤65536)∧e= .returned (.tuple #[PlanM.zero.val,I 1]))∧Keeps (· <w.heap.size) w w':=by
 by_cases hb:c.docs<1∨c.docs>64∨c.terms<64∨c.terms>256∨c.book<0∨c.book>65536∨c.room<0∨c.room>65536
 ·refine(play_out c hb w).mono ?_;rintro e w' ⟨h1,h2⟩;refine⟨Or.inr ⟨fun h=>?_,h1⟩,h2⟩;obtain⟨a1,a2,a3,a4,-,-,-,-,-,-,-,-,a5,a6,a7,a8⟩:=h.1
  omega
 have d0:1≤c.docs:=by omega
 have d1:c.docs≤64:=by omega
 have t0:64≤c.terms:=by omega
 have t1:c.terms≤256:=by omega
 have k0:0≤c.book:=by omega
 have k1:c.book≤65536:=by omega
 have r0:0≤c.room:=by omega
 have r1:c.room≤65536:=by omega
 clear hb;have hbad:∀{e w'},¬(c.ok∧c.all≤65536)→(e=Ending.returned (.tuple #[PlanM.zero.val,I 1])∧Keeps (· <w.heap.size) w w')→
   ((c.ok∧c.all≤65536)∧e= .returned (.tuple #[c.plan.val,I 0])∨¬(c.ok∧c.all≤65536)∧e= .returned (.tuple #[PlanM.zero.val,I 1]))∧Keeps (· <w.heap.size) w w':=
  fun h1 h=>⟨Or.inr ⟨h1,h.1⟩,h.2⟩
 by_cases o0:0≤c.s0∧c.s0≤512
 rotate_left
 ·exact(play_bad0 c.docs c.terms c.s0 c.s1 c.s2 c.s3 c.book c.room c.k c.b d0 d1 t0 t1 k0 k1 r0 r1 o0 w hT).mono fun e w' h=>hbad (fun h=>o0 ⟨h.1.a0,h.1.a1⟩) h
 by_cases o1:0≤c.s1∧c.s1≤512
 rotate_left
 ·exact(play_bad1 c.docs c.terms c.s0 c.s1 c.s2 c.s3 c.book c.room c.k c.b d0 d1 t0 t1 k0 k1 r0 r1 o0 o1 w hT).mono fun e w' h=>hbad (fun h=>o1 ⟨h.1.b0,h.1.b1⟩) h
 by_cases o2:0≤c.s2∧c.s2≤512
 rotate_left
 ·exact(play_bad2 c.docs c.terms c.s0 c.s1 c.s2 c.s3 c.book c.room c.k c.b d0 d1 t0 t1 k0 k1 r0 r1 o0 o1 o2 w hT).mono fun e w' h=>hbad (fun h=>o2 ⟨h.1.c0,h.1.c1⟩) h
 by_cases o3:0≤c.s3∧c.s3≤512
 rotate_left
 ·exact(play_bad3 c.docs c.terms c.s0 c.s1 c.s2 c.s3 c.book c.room c.k c.b d0 d1 t0 t1 k0 k1 r0 r1 o0 o1 o2 o3 w hT).mono fun e w' h=>hbad (fun h=>o3 ⟨h.1.e0,h.1.e1⟩) h
 have hall:c.all=3+4*c.s0+16*c.s1+64*c.s2+256*c.s3+c.book+c.room:=rfl
 by_cases q:3+c.s0*4+c.s1*16+c.s2*64+c.s3*256+c.book+c.room≤65536
 rotate_left
 ·exact(play_over c.docs c.terms c.s0 c.s1 c.s2 c.s3 c.book c.room c.k c.b d0 d1 t0 t1 k0 k1 r0 r1 o0 o1 o2 o3 q w hT).mono fun e w' h=>hbad (fun h=>q (by have:=h.2;omega)) h
 refine(play_good c.docs c.terms c.s0 c.s1 c.s2 c.s3 c.book c.room c.k c.b d0 d1 t0 t1 k0 k1 r0 r1 o0 o1 o2 o3 q w hT).mono ?_;rintro e w' ⟨⟨v,hv,hl,rfl⟩,hk⟩;refine⟨Or.inl ⟨⟨⟨d0,d1,t0,t1,o0.1,o0.2,o1.1,o1.2,o2.1,o2.2,o3.1,o3.2,k0,k1,r0,r1⟩,by omega⟩,?_⟩,hk⟩
 have hs:=slots_end hv hl t0;unfold ConfM.plan;rw[hs];dsimp only[PlanM.val];rw[hall,Int.mul_comm c.s0 4,Int.mul_comm c.s1 16,Int.mul_comm c.s2 64,Int.mul_comm c.s3 256]
end Go.Proofs.YtogdknnkhkjmcaaGreatDoor
