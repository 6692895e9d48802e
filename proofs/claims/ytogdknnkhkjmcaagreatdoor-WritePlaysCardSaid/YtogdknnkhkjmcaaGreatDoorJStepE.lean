/- Contracts of package step: Store, Off, Over, Count, Err. -/
import Derived.Test.YtogdknnkhkjmcaaGreatDoorJStepC
namespace Go.Proofs.YtogdknnkhkjmcaaGreatDoor
open Go.RowKit
set_option linter.all false
theorem RM.made_ok {w w':World}{K:Nat→Prop}{r m c:Nat}{g:Value}{s:St}{σ:RunS}{μ:MemS}(H:RM w K r m c s)
  (hgb:∀k,g.ownBlock=some k→k≠r∧k≠m∧k≠c∧¬K k)
  {w2:World} (hs:w.heap.size≤w2.heap.size) (hm:MemAt w2 m c μ) (hr:∃g',RunAt w' r m g' σ∧(∀b,g'.ownBlock=some b→b≠r)∧(g'.ownBlock=g.ownBlock∨∃b,g'.ownBlock=some b∧w2.heap.size≤b))
  (hk:Keeps (fun b=>b<w2.heap.size∧b≠r∧some b≠g.ownBlock) w2 w'):RM w' K r m c ⟨σ,μ⟩∧Keeps K w2 w':=by
 obtain⟨g',hg1,hg2,hg3⟩:=hr;refine⟨⟨⟨g',hg1,fun b hb=>?_⟩,hm.keep hk ⟨hm.obj.lt,fun e=>H.rm e.symm,?_⟩ ⟨hm.cells.lt,fun e=>H.rc e.symm,?_⟩,H.rm,H.rc,H.kr,H.km,H.kc,
  fun b hb=>by have:=H.lt b hb;have:=hk.size;omega⟩,hk.mono fun b hb=>?_⟩
 ·rcases hg3 with e|⟨b',e,hb'⟩
  ·exact hgb b (e▸hb)
  ·rw[e]at hb;injection hb with hb;subst hb
   have h1:=hm.obj.lt;have h2:=hm.cells.lt;exact⟨hg2 _ e,by omega,by omega,fun hK=>by have:=H.lt _ hK;omega⟩
 ·exact fun e=>(hgb m e.symm).2.1 rfl
 ·exact fun e=>(hgb c e.symm).2.2.1 rfl
 ·have:=H.lt b hb;exact⟨by omega,fun e=>H.kr (e▸hb),fun e=>(hgb b e.symm).2.2.2 hb⟩
set_option maxHeartbeats 400000 in
theorem step_store {w:World}{K:Nat→Prop}{r m c:Nat}{s:St}(h:RM w K r m c s)(a v:Int)(hv:U32 v):
  Calls Tryz.prog 49 #[.pointer (some ⟨r,0,none⟩),I a,J v] w fun e w'=>
   e= .returned (.tuple #[])∧RM w' K r m c (s.store a v)∧Keeps K w w':=by
 obtain⟨g,hrun,hgb⟩:=h.run;have hgr:∀b,g.ownBlock=some b→b≠r:=fun b hb=>(hgb b hb).1;have H:=hid h;clear h;refine calls_hide fun R' hR'=>?_
 by_cases h2:s.r.turnK=2
 ·obtain⟨hmay,hturn,_,_,_⟩:=turn2 h2;have HT:=hid hturn;have HMay:=hid hmay;have H2:=hid h2;have HR:=hid hrun;clear hturn hmay hrun
  go_enter Tryz.func49,Tryz.ntmps49
  go_wp2_with fail
  refine(step_turn HR.out hgr).mono ?_;rintro e w1 ⟨rfl,hrun1,hk1⟩;rw[h2];have c0:=hrun1.facts.1;have hm1:MemAt w1 m c s.m:=H.out.mem.keep hk1 (fun e=>H.out.rm e.symm) (fun e=>H.out.rc e.symm);have HR1:=hid hrun1;have HK1:=hid hk1;clear hrun1 hk1 h2
  go_wp2_with fail
  refine(mem_store hm1 a v hv).mono ?_;rintro e w2 ⟨rfl,hm2,hk2⟩;have hrun2:RunAt w2 r m g s.r.turn:=HR1.out.keep hk2 ⟨H.out.rm,H.out.rc⟩ (fun b hb=>⟨(hgb b hb).2.1,(hgb b hb).2.2.1⟩);have hlen:s.r.turn.log.length<1099511627776:=by
   have:=HR.out.room;rw[HMay.out]at this;rw[HT.out];simp at this ⊢;omega
  have hmf:s.r.turn.may=false:=by rw[HT.out]
  have hk12:Keeps K w w2:=(keeps_one HK1.out H.out.kr).trans (hk2.mono fun b hb=>⟨fun e=>H.out.km (e▸hb),fun e=>H.out.kc (e▸hb)⟩);have hval:s.store a v=⟨s.r.turn.made 0 (if s.m.inb a then 0 else 2),s.m.store a v⟩:=by
   unfold St.store;rw[if_pos H2.out]
  have HV:=hid hval;have HMF:=hid hmf;have HM2:=hid hm2;have HR2:=hid hrun2;have HK2:=hid hk12;have HLen:=hid hlen;clear hval hmf hm2 hrun2 hk2 hlen hm1 hk12
  cases hin:s.m.inb a
  ·have Hin:=hid hin;clear hin
   go_wp2_with fail
   refine(step_made_err HR2.out hgr 0).mono ?_;rintro e w3 ⟨rfl,hrun3,hk3⟩;have HR3:=hid hrun3;have HK3:=hid hk3;clear hrun3 hk3
   go_wp2_with fail
   go_end0
   refine hR'.out _ _ ⟨rfl,?_,HK2.out.trans (keeps_one HK3.out H.out.kr)⟩;rw[HV.out,Hin.out];exact⟨⟨g,HR3.out,hgb⟩,HM2.out.keep HK3.out (fun e=>H.out.rm e.symm) (fun e=>H.out.rc e.symm),H.out.rm,H.out.rc,H.out.kr,H.out.km,H.out.kc,
     fun b hb=>by have:=H.out.lt b hb;have:=HK2.out.size;have:=HK3.out.size;omega⟩
  ·have Hin:=hid hin;clear hin
   go_wp2_with fail
   refine(step_made_ok HR2.out hgr 0 (by unfold U32;omega) HLen.out HMF.out).mono ?_
   rintro e w3 ⟨rfl,hrun3,hk3⟩;have HR3:=hid hrun3;have HK3:=hid hk3;clear hrun3 hk3
   go_wp2_with fail
   go_end0
   have hfin:=RM.made_ok H.out hgb HK2.out.size HM2.out HR3.out HK3.out;refine hR'.out _ _ ⟨rfl,?_,HK2.out.trans hfin.2⟩;rw[HV.out,Hin.out];exact hfin.1
 ·have HR:=hid hrun;have H0:=hid h2;have hbf:(s.r.turnK==2)=false:=by simpa using h2
  clear hrun h2
  go_enter Tryz.func49,Tryz.ntmps49
  go_wp2_with fail
  refine(step_turn HR.out hgr).mono ?_;rintro e w1 ⟨rfl,hrun1,hk1⟩;rw[hbf];have HR1:=hid hrun1;have HK1:=hid hk1;clear hrun1 hk1
  go_wp2_with fail
  go_end0
  have hval:s.store a v=⟨s.r.turn,s.m⟩:=by
   unfold St.store;rw[if_neg H0.out]
  refine hR'.out _ _ ⟨rfl,?_,keeps_one HK1.out H.out.kr⟩;exact c115
set_option maxHeartbeats 400000 in
theorem run_off {w:World}{r m:Nat}{g:Value}{σ:RunS}(h:RunAt w r m g σ):
  Calls Tryz.prog 47 #[.pointer (some ⟨r,0,none⟩)] w fun e w'=>e= .returned (.bool (σ.off|| !σ.inn))∧w=w':=by
 have⟨c0,c1,c2,c3,c4,c5,c6,c7,f⟩:=h.facts;clear h f;refine calls_hide fun R' hR'=>?_;obtain⟨log,pos,inn,may,off,over,err⟩:=σ;simp only at c2 c3 c4 c5 c6 c7
 cases off<;>cases inn<;>
 ·go_enter Tryz.func47,Tryz.ntmps47
  go_wp2
  exact hR'.out _ _ ⟨rfl,rfl⟩
set_option maxHeartbeats 400000 in
theorem run_over {w:World}{r m:Nat}{g:Value}{σ:RunS}(h:RunAt w r m g σ):
  Calls Tryz.prog 24 #[.pointer (some ⟨r,0,none⟩)] w fun e w'=>e= .returned (.bool σ.over)∧w=w':=by
 have⟨c0,c1,c2,c3,c4,c5,c6,c7,f⟩:=h.facts;clear h f;refine calls_hide fun R' hR'=>?_
 go_enter Tryz.func24,Tryz.ntmps24
 go_wp2
 exact hR'.out _ _ ⟨rfl,rfl⟩
set_option maxHeartbeats 400000 in
theorem run_err {w:World}{r m:Nat}{g:Value}{σ:RunS}(h:RunAt w r m g σ):
  Calls Tryz.prog 33 #[.pointer (some ⟨r,0,none⟩)] w fun e w'=>e= .returned (I σ.err)∧w=w':=by
 have⟨c0,c1,c2,c3,c4,c5,c6,c7,f⟩:=h.facts;clear h f;refine calls_hide fun R' hR'=>?_
 go_enter Tryz.func33,Tryz.ntmps33
 go_wp2
 exact hR'.out _ _ ⟨rfl,rfl⟩
theorem step_off {w:World}{K:Nat→Prop}{r m c:Nat}{s:St}(h:RM w K r m c s):
  Calls Tryz.prog 47 #[.pointer (some ⟨r,0,none⟩)] w fun e w'=>e= .returned (.bool s.isOff)∧w=w':=by
 obtain⟨g,hrun,_⟩:=h.run;exact run_off hrun
theorem RM.obj8 {w:World}{K:Nat→Prop}{r m c:Nat}{s:St}(h:RM w K r m c s):∃g,
  Blk w r [.pointer (some ⟨m,0,none⟩),g,I s.r.pos,.bool s.r.inn,.bool s.r.may,.bool s.r.off,.bool s.r.over,I s.r.err]∧
  RunAt w r m g s.r∧∀k,g.ownBlock=some k→k≠r∧k≠m∧k≠c∧¬K k:=by
 obtain⟨g,h1,h2⟩:=h.run;exact⟨g,h1.obj,h1,h2⟩
theorem RM.runSet {w w':World}{K:Nat→Prop}{r m c:Nat}{g:Value}{s:St}{σ':RunS}(H:RM w K r m c s)
  (h:RunAt w r m g s.r) (hgb:∀k,g.ownBlock=some k→k≠r∧k≠m∧k≠c∧¬K k) (k:Keeps (· ≠r) w w')
  (hb:Blk w' r [.pointer (some ⟨m,0,none⟩),g,I σ'.pos,.bool σ'.inn,.bool σ'.may,.bool σ'.off,.bool σ'.over,I σ'.err])
  (hl:σ'.log=s.r.log) (hle:σ'.pos≤s.r.log.length) (hm:s.r.log.length+(if σ'.may then 1 else 0)≤1099511627776):RM w' K r m c ⟨σ',s.m⟩:=
 ⟨⟨g,⟨hb,by rw[hl];exact own_of_keep h.log k (fun b hb=>(hgb b hb).1),by rw[hl];exact hle,by rw[hl];exact hm,by rw[hl];exact h.range⟩,hgb⟩,
  H.mem.keep k (fun e=>H.rm e.symm) (fun e=>H.rc e.symm),H.rm,H.rc,H.kr,H.km,H.kc,fun b hb=>by have:=H.lt b hb;have:=k.size;omega⟩
theorem func_nil (f:FuncId)(cap:Array Value)(w:World):
  (binOp .eql 53 (.func (.func f) #[] cap) .nilFunc).run Tryz.prog w= .ok (.bool false) w:=by kernel_rfl
set_option maxRecDepth 100000 in
set_option maxHeartbeats 400000 in
theorem run_step {w:World}{K:Nat→Prop}{r m c:Nat}{s:St}(h:RM w K r m c s)(hov:s.r.over=false)(hlen:s.r.log.length<1099511627776)
  {α:Type} (f:FuncId) (cap:Array Value)
  (hent:∀(args:Array Value) (w:World),(callFunc f args).run Tryz.prog w= .ok (.enter f args) w) (t:Tree α) (R2:World→Prop)
  (hp:∀w1,Keeps K w w1→RM w1 K r m c ⟨s.r.begin,s.m⟩→Calls Tryz.prog f (#[.pointer (some ⟨r,0,none⟩)]++cap) w1 fun e w2=>
   e= .returned (.tuple #[])∧RM w2 K r m c (t.exec ⟨s.r.begin,s.m⟩).2∧R2 w2):
  Calls Tryz.prog 17 #[.pointer (some ⟨r,0,none⟩),.func (.func f) #[] cap] w fun e w'=>
   e= .returned (.bool (s.step t).2.r.over)∧RM w' K r m c (s.step t).2∧∃w2,R2 w2∧Keeps (· ≠r) w2 w':=by
 obtain⟨g,hb,hrun,hgb⟩:=h.obj8;have⟨c0,c1,c2,c3,c4,c5,c6,c7,fz⟩:=hrun.facts;rw[hov]at c6;have H:=hid h;have HB:=hid hb;have HR:=hid hrun;have HP:=hid hp;have HL:=hid hlen;have HO:=hid hov;clear h hb hrun hp hlen hov;refine calls_hide fun R' hR'=>?_;have hnf:=func_nil f cap
 go_enter Tryz.func17,Tryz.ntmps17
 go_wp2_with fail
 have hk:Keeps (· ≠r) w ((((w.setCell ⟨r,2,none⟩ (I 0)).setCell ⟨r,3,none⟩ (.bool true)).setCell ⟨r,4,none⟩ (.bool true)).setCell ⟨r,5,none⟩ (.bool false)):=
  ((((Keeps.refl _ w).setCell (by simp) _).setCell (by simp) _).setCell (by simp) _).setCell (by simp) _
 have hb1:=(((HB.out.set 2 (I 0)).set 3 (.bool true)).set 4 (.bool true)).set 5 (.bool false);simp only[List.set]at hb1;have hRM:=H.out.runSet (σ':=s.r.begin) HR.out hgb hk (by simpa[RunS.begin]using hb1) rfl (by simp[RunS.begin]) (by have:=HL.out;simp[RunS.begin];omega)
 refine(HP.out _ (keeps_one hk H.out.kr) hRM).mono ?_;rintro e w2 ⟨rfl,hRM2,hR2⟩;obtain⟨g2,hb2,hrun2,hgb2⟩:=hRM2.obj8;have⟨d0,d1,d2,d3,d4,d5,d6,d7,fz2⟩:=hrun2.facts;have HH2:=hid hR2;have HM2:=hid hRM2;have HB2:=hid hb2;have HR2:=hid hrun2;clear hRM2 hR2 hb2 hrun2 hk hb1 hRM c0 c1 c2 c3 c4 c5 c6 c7 fz;have hst:(s.step t).2=⟨(t.exec ⟨s.r.begin,s.m⟩).2.r.finish,(t.exec ⟨s.r.begin,s.m⟩).2.m⟩:=rfl
 have HST:=hid hst;clear hst;generalize (t.exec ⟨s.r.begin,s.m⟩).2=s2 at*;obtain⟨⟨log,pos,inn,may,off,over,err⟩,μ2⟩:=s2;simp only at d2 d3 d4 d5 d6 d7;have hle2:pos≤log.length:=HR2.out.le;have hro:log.length+(if may then 1 else 0)≤1099511627776:=HR2.out.room
 have HRo:=hid hro;clear hro
 cases off
 ·go_wp2
  have hk2:Keeps (· ≠r) w2 ((w2.setCell ⟨r,3,none⟩ (.bool false)).setCell ⟨r,6,none⟩ (.bool true)):=
   ((Keeps.refl _ w2).setCell (by simp) _).setCell (by simp) _
  refine hR'.out _ _ ⟨by rw[HST.out];rfl,?_,w2,HH2.out,hk2⟩
  rw[HST.out];exact HM2.out.runSet (σ':=RunS.finish ⟨log,pos,inn,may,false,over,err⟩) HR2.out hgb2 hk2
   (by simpa[RunS.finish]using(HB2.out.set 3 (.bool false)).set 6 (.bool true)) rfl hle2 HRo.out
 ·go_wp2
  have hk2:Keeps (· ≠r) w2 ((w2.setCell ⟨r,3,none⟩ (.bool false)).setCell ⟨r,6,none⟩ (.bool (err !=0))):=
   ((Keeps.refl _ w2).setCell (by simp) _).setCell (by simp) _
  have he:(err !=0)=decide (err≠0):=by by_cases h:err=0<;>simp[h]
  refine hR'.out _ _ ⟨by rw[HST.out,RunS.finish];simp only[Bool.not_true,Bool.false_or,←he];rfl,?_,w2,HH2.out,hk2⟩
  rw[HST.out];exact HM2.out.runSet (σ':=RunS.finish ⟨log,pos,inn,may,true,over,err⟩) HR2.out hgb2 hk2
   (by simpa[RunS.finish,he]using(HB2.out.set 3 (.bool false)).set 6 (.bool (err !=0))) rfl hle2 HRo.out
end Go.Proofs.YtogdknnkhkjmcaaGreatDoor
