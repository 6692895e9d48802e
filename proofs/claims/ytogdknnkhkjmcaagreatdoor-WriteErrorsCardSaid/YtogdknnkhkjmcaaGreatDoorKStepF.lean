/- Lemmas on the programs that the statement reaches. -/
import Derived.Test.YtogdknnkhkjmcaaGreatDoorKStepA
import Derived.Test.YtogdknnkhkjmcaaGreatDoorKOpen
namespace Go.Proofs.YtogdknnkhkjmcaaGreatDoor
open Go.RowKit
set_option linter.all false
theorem Tryz.infoU:(Tryz.prog.info? 32).map (fun i=>(i.zero,i.size,i.bytes))=some (some (J 0),1,4):=by kernel_rfl
set_option maxHeartbeats 400000 in
theorem step_made_err {w:World}{r m:Nat}{g:Value}{σ:RunS}(h:RunAt w r m g σ)(hg:∀b,g.ownBlock=some b→b≠r)(v:Int):
  Z 72 #[.pointer (some ⟨r,0,none⟩),J v,I 2] w fun e w'=>
   e= .returned (.tuple #[])∧RunAt w' r m g (σ.made v 2)∧Keeps (· ≠r) w w':=by
 have⟨c0,c1,c2,c3,c4,c5,c6,c7,f⟩:=h.facts;have H:=hid h;have HG:=hid hg;clear h hg;refine calls_hide fun R' hR'=>?_
 go_enter Tryz.func72,Tryz.ntmps72
 go_wp2
 go_end0
 refine hR'.out _ _ ⟨rfl,?_,by exact((Keeps.refl _ _).setCell (by simp) _).setCell (by simp) _⟩
 have e:σ.made v 2={ σ with err:=2,off:=true }:=by simp[RunS.made]
 rw[e];exact H.out.next (((Keeps.refl _ _).setCell (by simp) _).setCell (by simp) _) (by simpa using(H.out.obj.set 7 (I 2)).set 5 (.bool true)) HG.out rfl (by simpa using H.out.le) (fun h=>h)
set_option maxHeartbeats 400000 in
theorem step_made_ok {w:World}{r m:Nat}{g:Value}{σ:RunS}(h:RunAt w r m g σ)(hg:∀b,g.ownBlock=some b→b≠r)(v:Int)(hv:U32 v)
  (hlt:σ.log.length<1099511627776) (hmay:σ.may=false):
  Z 72 #[.pointer (some ⟨r,0,none⟩),J v,I 0] w fun e w'=>
   e= .returned (.tuple #[])∧(∃g',RunAt w' r m g' (σ.made v 0)∧(∀b,g'.ownBlock=some b→b≠r)∧(g'.ownBlock=g.ownBlock∨∃b,g'.ownBlock=some b∧w.heap.size≤b))∧
   Keeps (fun b=>b<w.heap.size∧b≠r∧some b≠g.ownBlock) w w':=by
 have⟨c0,c1,c2,c3,c4,c5,c6,c7,f⟩:=h.facts;have hown:=h.log;have hle:=h.le;have hr:=h.obj.lt;obtain⟨i0,hi,hz0,hz1,hz2⟩:=info_parts Tryz.infoU;have H:=hid h;have HG:=hid hg;have HM:=hid hmay;clear h hg hmay;refine calls_hide fun R' hR'=>?_
 go_enter Tryz.func72,Tryz.ntmps72
 go_wp2_with (at_builtin;refine wpList_append_x rfl _ _ 47 rfl 32 i0 (J 0) 1 4 Tryz.underlying47 hi hz0 hz1 hz2 rfl (by decide) g σ.log.length (σ.log.map (Value.int .u32)) rfl (hown.alloc _) ⟨w.heap.size,0,none⟩ 1 1 [J v] rfl rfl ?c1 ?c2 ?c3 ?c4 ?_)
 case c1=>exact cell_one_new _ _ _
 case c2=>intro u hu;simp at hu;subst hu;rfl
 case c3=>unfold maxLen;omega
 case c4=>omega
 intro v' w1 hown' hgr hfr;obtain⟨a',cap',hv'⟩:=own_len hown';subst hv';have hb1:Blk w1 r _:=(H.out.obj.alloc (.cells #[J v] 32)).grown hgr (fun e=>HG.out r e.symm rfl);have d1:=hb1.cell 1;have d2:=hb1.cell 2;have fd:=hb1.free;have hsz:=hgr.size;simp only[List.getElem?_cons_zero,List.getElem?_cons_succ]at d1 d2;have HO:=hid hown';have HGR:=hid hgr;have HF:=hid hfr;clear hown' hgr hfr hown hi hz0 hz1 hz2 f
 go_wp2
 go_end0
 have e:σ.made v 0={ σ with log:=σ.log++[v],pos:=σ.pos+1 }:=by simp[RunS.made]
 have hnr:∀b,(Value.slice a' (σ.log.length+1) cap').ownBlock=some b→b≠r:=by
  intro b hb
  rcases HF.out with h1|⟨b',h1,h2⟩
  ·exact HG.out b (h1▸hb)
  ·rw[h1]at hb;injection hb with hb;omega
 refine hR'.out _ _ ⟨rfl,⟨_,?_,hnr,?_⟩,?_⟩
 ·rw[e];refine⟨by simpa using(hb1.set 1 (.slice a' (σ.log.length+1) cap')).set 2 (I ((σ.pos:Int)+1)),?_,by simp;omega,?_,?_⟩
  ·have:=own_of_keep HO.out (((Keeps.refl (· ≠r) w1).setCell (p:=⟨r,1,none⟩) (by simp) (.slice a' (σ.log.length+1) cap')).setCell (p:=⟨r,2,none⟩) (by simp) (I ((σ.pos:Int)+1))) hnr
   simpa using this
  ·have:=HM.out
   simp[this];omega
  ·intro x hx
   rcases List.mem_append.1 hx with hx|hx
   ·exact H.out.range x hx
   ·simp at hx;exact hx▸hv
 ·rcases HF.out with h1|⟨b',h1,h2⟩
  ·exact Or.inl h1
  ·exact Or.inr ⟨b',h1,by omega⟩
 ·have k1:Keeps (fun b=>b<w.heap.size∧b≠r∧some b≠g.ownBlock) w w1:=
   ((Keeps.refl _ w).alloc (fun b hb=>hb.1) _).grown (fun b hb=>by simp;omega) HGR.out (fun k hk hb=>hb.2.2 hk.symm)
  exact(k1.setCell (by simp) _).setCell (by simp) _
theorem RunAt.keep {K:Nat→Prop}{w w':World}{r m:Nat}{g:Value}{σ:RunS}(h:RunAt w r m g σ)(k:Keeps K w w')(hr:K r)
  (hg:∀b,g.ownBlock=some b→K b):RunAt w' r m g σ:=
 ⟨h.obj.keep k hr,own_of_keep h.log k hg,h.le,h.room,h.range⟩
theorem turn2 {σ:RunS}(h:σ.turnK=2):σ.may=true∧σ.turn={ σ with may:=false }∧σ.inn=true∧σ.off=false∧¬σ.pos<σ.log.length:=by
 unfold RunS.turnK at h;unfold RunS.turn
 split at h
 ·cases h
 ·rename_i h1
  rw[if_neg h1]
  split at h
  ·cases h
  ·rename_i h2
   rw[if_neg h2]
   split at h
   ·cases h
   ·rename_i h3
    rw[if_neg h3]
    simp at h1 h3
    exact⟨h3,rfl,h1.1,h1.2,h2⟩
theorem turn1 {σ:RunS}(h:σ.turnK=1):σ.turn={ σ with pos:=σ.pos+1 }∧σ.pos<σ.log.length:=by
 unfold RunS.turnK at h;unfold RunS.turn
 split at h
 ·cases h
 ·rename_i h1
  rw[if_neg h1]
  split at h
  ·rename_i h2;exact⟨by rw[if_pos h2],h2⟩
  ·split at h<;>cases h
theorem turn_cases (σ:RunS):σ.turnK=2∨σ.turnK=1∨σ.turnK=0:=by
 unfold RunS.turnK
 split
 ·simp
 ·split
  ·simp
  ·split<;>simp
theorem keeps_one {K:Nat→Prop}{x:Nat}{w w':World}(h:Keeps (· ≠x) w w')(hx:¬K x):Keeps K w w':=
 h.mono fun _ hb e=>hx (e▸hb)
theorem logAt {w:World}{r m:Nat}{g:Value}{σ:RunS}(h:RunAt w r m g σ)(hp:σ.pos<σ.log.length):
  ∃b cap,g= .slice (some ⟨b,0,none⟩) σ.log.length cap∧w.cell? ⟨b,σ.pos,none⟩=some (J (σ.log.getD σ.pos 0)):=by
 rcases own_slice h.log with⟨_,h2,_⟩|⟨b,cap,h1,_,_,h4⟩
 ·omega
 ·refine⟨b,cap,h1,?_⟩;rw[h4 _ hp,List.getElem?_map,List.getElem?_eq_getElem hp,List.getD_eq_getElem?_getD,List.getElem?_eq_getElem hp]
  rfl
set_option maxHeartbeats 400000 in
theorem step_load {w:World}{K:Nat→Prop}{r m c:Nat}{s:St}(h:RM w K r m c s)(a:Int):
  Z 70 #[.pointer (some ⟨r,0,none⟩),I a] w fun e w'=>
   e= .returned (J (s.load a).1)∧RM w' K r m c (s.load a).2∧Keeps K w w':=by
 obtain⟨g,hrun,hgb⟩:=h.run;have hgr:∀b,g.ownBlock=some b→b≠r:=fun b hb=>(hgb b hb).1;have H:=hid h;clear h;refine calls_hide fun R' hR'=>?_
 rcases turn_cases s.r with h2|h1|h0
 ·obtain⟨hmay,hturn,_,_,_⟩:=turn2 h2;have HT:=hid hturn;have HMay:=hid hmay;have H2:=hid h2;have HR:=hid hrun;clear hturn hmay hrun
  go_enter Tryz.func70,Tryz.ntmps70
  go_wp2_with fail
  refine(step_turn HR.out hgr).mono ?_;rintro e w1 ⟨rfl,hrun1,hk1⟩;rw[h2];have c0:=hrun1.facts.1;have hm1:MemAt w1 m c s.m:=H.out.mem.keep hk1 (fun e=>H.out.rm e.symm) (fun e=>H.out.rc e.symm);have HR1:=hid hrun1;have HK1:=hid hk1;clear hrun1 hk1 h2
  go_wp2_with fail
  refine(mem_load hm1 a).mono ?_;rintro e w2 ⟨rfl,hm2,hk2⟩;have hrun2:RunAt w2 r m g s.r.turn:=HR1.out.keep hk2 H.out.rm (fun b hb=>(hgb b hb).2.1);have hlen:s.r.turn.log.length<1099511627776:=by
   have:=H.out.run;obtain⟨g2,hg2,_⟩:=this;have:=hg2.room;rw[HMay.out]at this;rw[HT.out];simp at this ⊢;omega
  have hmf:s.r.turn.may=false:=by rw[HT.out]
  have hsz1:=HK1.out.size;have hsz2:=hk2.size;have hval:s.load a=(if s.m.inb a then s.m.at a else 0,⟨s.r.turn.made (if s.m.inb a then s.m.at a else 0) (if s.m.inb a then 0 else 2),s.m.load a⟩):=by
   unfold St.load;rw[if_pos H2.out]
  have HV:=hid hval;have HMF:=hid hmf;have HM2:=hid hm2;have HR2:=hid hrun2;have HK2:=hid hk2;have HLen:=hid hlen;clear hval hmf hm2 hrun2 hk2 hlen hm1
  cases hin:s.m.inb a
  ·have Hin:=hid hin;clear hin
   go_wp2_with fail
   refine(step_made_err HR2.out hgr 0).mono ?_;rintro e w3 ⟨rfl,hrun3,hk3⟩;have HR3:=hid hrun3;have HK3:=hid hk3;clear hrun3 hk3
   go_wp2_with fail
   refine hR'.out _ _ ⟨by rw[HV.out,Hin.out];rfl,?_,?_⟩
   ·rw[HV.out,Hin.out];exact⟨⟨g,HR3.out,hgb⟩,HM2.out.keep HK3.out (fun e=>H.out.rm e.symm) (fun e=>H.out.rc e.symm),H.out.rm,H.out.rc,H.out.kr,H.out.km,H.out.kc,
     fun b hb=>by have:=H.out.lt b hb;have:=HK3.out.size;omega⟩
   ·exact(keeps_one HK1.out H.out.kr).trans ((keeps_one HK2.out H.out.km).trans (keeps_one HK3.out H.out.kr))
  ·have hu:U32 (s.m.at a):=by
    have:0≤a∧a<s.m.cells.length:=by simpa[MemS.inb]using hin
    exact MemS.at_range H.out.mem this.1 this.2
   have Hin:=hid hin;have Hu:=hid hu;clear hin hu
   go_wp2_with fail
   refine(step_made_ok HR2.out hgr _ Hu.out HLen.out HMF.out).mono ?_;rintro e w3 ⟨rfl,hrun3,hk3⟩;have HR3:=hid hrun3;have HK3:=hid hk3;clear hrun3 hk3
   go_wp2_with fail
   refine hR'.out _ _ ⟨by rw[HV.out,Hin.out];rfl,?_,?_⟩
   ·rw[HV.out,Hin.out];obtain⟨g',hg1,hg2,hg3⟩:=HR3.out;have hmb:=HM2.out;refine⟨⟨g',hg1,fun b hb=>?_⟩,hmb.keep HK3.out ⟨hmb.obj.lt,fun e=>H.out.rm e.symm,?_⟩ ⟨hmb.cells.lt,fun e=>H.out.rc e.symm,?_⟩,H.out.rm,H.out.rc,H.out.kr,H.out.km,H.out.kc,
     fun b hb=>by have:=H.out.lt b hb;have:=HK3.out.size;omega⟩
    ·rcases hg3 with e|⟨b',e,hb'⟩
     ·exact hgb b (e▸hb)
     ·rw[e]at hb;injection hb with hb;subst hb
      have h1:=hmb.obj.lt;have h2:=hmb.cells.lt;exact⟨hg2 _ e,by omega,by omega,fun hK=>by have:=H.out.lt _ hK;omega⟩
    ·exact fun e=>(hgb m e.symm).2.1 rfl
    ·exact fun e=>(hgb c e.symm).2.2.1 rfl
   ·refine(keeps_one HK1.out H.out.kr).trans ((keeps_one HK2.out H.out.km).trans (HK3.out.mono fun b hb=>?_));have:=H.out.lt b hb;exact⟨by omega,fun e=>H.out.kr (e▸hb),fun e=>(hgb b e.symm).2.2.2 hb⟩
 ·obtain⟨hturn,hp⟩:=turn1 h1;have HT:=hid hturn;have HR:=hid hrun;have H1:=hid h1;have Hp:=hid hp;clear hturn hrun hp
  go_enter Tryz.func70,Tryz.ntmps70
  go_wp2_with fail
  refine(step_turn HR.out hgr).mono ?_;rintro e w1 ⟨rfl,hrun1,hk1⟩;rw[h1];have c1:=hrun1.facts.2.1;have c2:=hrun1.facts.2.2.1;rw[HT.out]at c2;obtain⟨lb,cap,hgv,hlog⟩:=logAt HR.out Hp.out;have hlog1:w1.cell? ⟨lb,s.r.pos,none⟩=some (J (s.r.log.getD s.r.pos 0)):=by
   rw[←hlog];exact World.cell?_of_block (hk1.block lb (hgr lb (by rw[hgv];rfl)))
  rw[hgv]at c1;have HG:=hid hgv;have hp:=Hp.out;have hl1:s.r.log.length≤1099511627776:=by have:=HR.out.room;split at this<;>omega
  have HR1:=hid hrun1;have HK1:=hid hk1;clear hrun1 hk1 h1 hgv hlog;simp only at c2;generalize hx:s.r.log.getD s.r.pos 0=x at hlog1;have HX:=hid hx;clear hx
  go_wp2_with fail
  go_quiet (fail)
  go_wp2_with fail
  have hval:s.load a=(x,⟨s.r.turn,s.m⟩):=by
   unfold St.load;rw[if_neg (by rw[H1.out];decide),if_pos H1.out,HX.out]
  refine hR'.out _ _ ⟨by rw[hval];rfl,?_,((keeps_one HK1.out H.out.kr).drewN _)⟩
  rw[hval];have hk:Keeps (· ≠r) w (w1.drewN nq):=HK1.out.drewN _;refine⟨⟨g,HR1.out.keep (K:=fun _=>True) ((Keeps.refl _ w1).drewN nq) trivial (fun _ _=>trivial),hgb⟩,H.out.mem.keep hk (fun e=>H.out.rm e.symm) (fun e=>H.out.rc e.symm),H.out.rm,H.out.rc,H.out.kr,H.out.km,H.out.kc,
   fun b hb=>by have:=H.out.lt b hb;have:=hk.size;omega⟩
 ·have HR:=hid hrun;have H0:=hid h0;clear hrun
  go_enter Tryz.func70,Tryz.ntmps70
  go_wp2_with fail
  refine(step_turn HR.out hgr).mono ?_;rintro e w1 ⟨rfl,hrun1,hk1⟩;rw[h0];have HR1:=hid hrun1;have HK1:=hid hk1;clear hrun1 hk1 h0
  go_wp2_with fail
  have hval:s.load a=(0,⟨s.r.turn,s.m⟩):=by
   unfold St.load;rw[if_neg (by rw[H0.out];decide),if_neg (by rw[H0.out];decide)]
  refine hR'.out _ _ ⟨by rw[hval];rfl,?_,keeps_one HK1.out H.out.kr⟩
  exact c108
theorem RM.made_ok {w w':World}{K:Nat→Prop}{r m c:Nat}{g:Value}{s:St}{σ:RunS}{μ:MemS}(H:RM w K r m c s)
  (hgb:∀k,g.ownBlock=some k→k≠r∧k≠m∧k≠c∧¬K k)
  {w2:World} (hs:w.heap.size≤w2.heap.size) (hm:MemAt w2 m c μ) (hr:∃g',RunAt w' r m g' σ∧(∀b,g'.ownBlock=some b→b≠r)∧(g'.ownBlock=g.ownBlock∨∃b,g'.ownBlock=some b∧w2.heap.size≤b))
  (hk:Keeps (fun b=>b<w2.heap.size∧b≠r∧some b≠g.ownBlock) w2 w'):RM w' K r m c ⟨σ,μ⟩∧Keeps K w2 w':=by
 obtain⟨g',hg1,hg2,hg3⟩:=hr;refine⟨⟨⟨g',hg1,fun b hb=>?_⟩,hm.keep hk ⟨hm.obj.lt,fun e=>H.rm e.symm,?_⟩ ⟨hm.cells.lt,fun e=>H.rc e.symm,?_⟩,H.rm,H.rc,H.kr,H.km,H.kc,
  fun b hb=>by have:=H.lt b hb;have:=hk.size;omega⟩,hk.mono fun b hb=>?_⟩
 ·rcases hg3 with e|⟨b',e,hb'⟩
  ·exact hgb b (e▸hb)
  ·rw[e]at hb;injection hb with hb;subst hb
   have h1:=hm.obj.lt;have h2:=hm.cells.lt;exact⟨hg2 _ e,by omega,by omega,fun hK=>by have:=H.lt _ hK;omega⟩
 ·exact fun e=>(hgb m e.symm).2.1 rfl
 ·exact fun e=>(hgb c e.symm).2.2.1 rfl
 ·have:=H.lt b hb;exact⟨by omega,fun e=>H.kr (e▸hb),fun e=>(hgb b e.symm).2.2.2 hb⟩
set_option maxHeartbeats 400000 in
theorem step_store {w:World}{K:Nat→Prop}{r m c:Nat}{s:St}(h:RM w K r m c s)(a v:Int)(hv:U32 v):
  Z 49 #[.pointer (some ⟨r,0,none⟩),I a,J v] w fun e w'=>
   e= .returned (.tuple #[])∧RM w' K r m c (s.store a v)∧Keeps K w w':=by
 obtain⟨g,hrun,hgb⟩:=h.run;have hgr:∀b,g.ownBlock=some b→b≠r:=fun b hb=>(hgb b hb).1;have H:=hid h;clear h;refine calls_hide fun R' hR'=>?_
 by_cases h2:s.r.turnK=2
 ·obtain⟨hmay,hturn,_,_,_⟩:=turn2 h2;have HT:=hid hturn;have HMay:=hid hmay;have H2:=hid h2;have HR:=hid hrun;clear hturn hmay hrun
  go_enter Tryz.func49,Tryz.ntmps49
  go_wp2_with fail
  refine(step_turn HR.out hgr).mono ?_;rintro e w1 ⟨rfl,hrun1,hk1⟩;rw[h2];have c0:=hrun1.facts.1;have hm1:MemAt w1 m c s.m:=H.out.mem.keep hk1 (fun e=>H.out.rm e.symm) (fun e=>H.out.rc e.symm);have HR1:=hid hrun1;have HK1:=hid hk1;clear hrun1 hk1 h2
  go_wp2_with fail
  refine(mem_store hm1 a v hv).mono ?_;rintro e w2 ⟨rfl,hm2,hk2⟩;have hrun2:RunAt w2 r m g s.r.turn:=HR1.out.keep hk2 ⟨H.out.rm,H.out.rc⟩ (fun b hb=>⟨(hgb b hb).2.1,(hgb b hb).2.2.1⟩);have hlen:s.r.turn.log.length<1099511627776:=by
   have:=HR.out.room;rw[HMay.out]at this;rw[HT.out];simp at this ⊢;omega
  have hmf:s.r.turn.may=false:=by rw[HT.out]
  have hk12:Keeps K w w2:=(keeps_one HK1.out H.out.kr).trans (hk2.mono fun b hb=>⟨fun e=>H.out.km (e▸hb),fun e=>H.out.kc (e▸hb)⟩);have hval:s.store a v=⟨s.r.turn.made 0 (if s.m.inb a then 0 else 2),s.m.store a v⟩:=by
   unfold St.store;rw[if_pos H2.out]
  have HV:=hid hval;have HMF:=hid hmf;have HM2:=hid hm2;have HR2:=hid hrun2;have HK2:=hid hk12;have HLen:=hid hlen;clear hval hmf hm2 hrun2 hk2 hlen hm1 hk12
  cases hin:s.m.inb a
  ·have Hin:=hid hin;clear hin
   go_wp2_with fail
   refine(step_made_err HR2.out hgr 0).mono ?_;rintro e w3 ⟨rfl,hrun3,hk3⟩;have HR3:=hid hrun3;have HK3:=hid hk3;clear hrun3 hk3
   go_wp2_with fail
   go_end0
   refine hR'.out _ _ ⟨rfl,?_,HK2.out.trans (keeps_one HK3.out H.out.kr)⟩;rw[HV.out,Hin.out];exact⟨⟨g,HR3.out,hgb⟩,HM2.out.keep HK3.out (fun e=>H.out.rm e.symm) (fun e=>H.out.rc e.symm),H.out.rm,H.out.rc,H.out.kr,H.out.km,H.out.kc,
     fun b hb=>by have:=H.out.lt b hb;have:=HK2.out.size;have:=HK3.out.size;omega⟩
  ·have Hin:=hid hin;clear hin
   go_wp2_with fail
   refine(step_made_ok HR2.out hgr 0 (by unfold U32;omega) HLen.out HMF.out).mono ?_
   rintro e w3 ⟨rfl,hrun3,hk3⟩;have HR3:=hid hrun3;have HK3:=hid hk3;clear hrun3 hk3
   go_wp2_with fail
   go_end0
   have hfin:=RM.made_ok H.out hgb HK2.out.size HM2.out HR3.out HK3.out;refine hR'.out _ _ ⟨rfl,?_,HK2.out.trans hfin.2⟩;rw[HV.out,Hin.out];exact hfin.1
 ·have HR:=hid hrun;have H0:=hid h2;have hbf:(s.r.turnK==2)=false:=by simpa using h2
  clear hrun h2
  go_enter Tryz.func49,Tryz.ntmps49
  go_wp2_with fail
  refine(step_turn HR.out hgr).mono ?_;rintro e w1 ⟨rfl,hrun1,hk1⟩;rw[hbf];have HR1:=hid hrun1;have HK1:=hid hk1;clear hrun1 hk1
  go_wp2_with fail
  go_end0
  have hval:s.store a v=⟨s.r.turn,s.m⟩:=by
   unfold St.store;rw[if_neg H0.out]
  refine hR'.out _ _ ⟨rfl,?_,keeps_one HK1.out H.out.kr⟩;exact c108
set_option maxHeartbeats 400000 in
theorem run_off {w:World}{r m:Nat}{g:Value}{σ:RunS}(h:RunAt w r m g σ):
  Z 47 #[.pointer (some ⟨r,0,none⟩)] w fun e w'=>e= .returned (.bool (σ.off|| !σ.inn))∧w=w':=by
 have⟨c0,c1,c2,c3,c4,c5,c6,c7,f⟩:=h.facts;clear h f;refine calls_hide fun R' hR'=>?_;obtain⟨log,pos,inn,may,off,over,err⟩:=σ;simp only at c2 c3 c4 c5 c6 c7
 cases off<;>cases inn<;>
 ·go_enter Tryz.func47,Tryz.ntmps47
  go_wp2
  exact hR'.out _ _ ⟨rfl,rfl⟩
set_option maxHeartbeats 400000 in
theorem run_over {w:World}{r m:Nat}{g:Value}{σ:RunS}(h:RunAt w r m g σ):
  Z 24 #[.pointer (some ⟨r,0,none⟩)] w fun e w'=>e= .returned (.bool σ.over)∧w=w':=by
 have⟨c0,c1,c2,c3,c4,c5,c6,c7,f⟩:=h.facts;clear h f;refine calls_hide fun R' hR'=>?_
 go_enter Tryz.func24,Tryz.ntmps24
 go_wp2
 exact hR'.out _ _ ⟨rfl,rfl⟩
set_option maxHeartbeats 400000 in
theorem run_err {w:World}{r m:Nat}{g:Value}{σ:RunS}(h:RunAt w r m g σ):
  Z 33 #[.pointer (some ⟨r,0,none⟩)] w fun e w'=>e= .returned (I σ.err)∧w=w':=by
 have⟨c0,c1,c2,c3,c4,c5,c6,c7,f⟩:=h.facts;clear h f;refine calls_hide fun R' hR'=>?_
 go_enter Tryz.func33,Tryz.ntmps33
 go_wp2
 exact hR'.out _ _ ⟨rfl,rfl⟩
theorem step_off {w:World}{K:Nat→Prop}{r m c:Nat}{s:St}(h:RM w K r m c s):
  Z 47 #[.pointer (some ⟨r,0,none⟩)] w fun e w'=>e= .returned (.bool s.isOff)∧w=w':=by
 obtain⟨g,hrun,_⟩:=h.run;exact run_off hrun
theorem RM.obj8 {w:World}{K:Nat→Prop}{r m c:Nat}{s:St}(h:RM w K r m c s):∃g,
  Blk w r [.pointer (some ⟨m,0,none⟩),g,I s.r.pos,.bool s.r.inn,.bool s.r.may,.bool s.r.off,.bool s.r.over,I s.r.err]∧
  RunAt w r m g s.r∧∀k,g.ownBlock=some k→k≠r∧k≠m∧k≠c∧¬K k:=by
 obtain⟨g,h1,h2⟩:=h.run;exact⟨g,h1.obj,h1,h2⟩
theorem RM.runSet {w w':World}{K:Nat→Prop}{r m c:Nat}{g:Value}{s:St}{σ':RunS}(H:RM w K r m c s)
  (h:RunAt w r m g s.r) (hgb:∀k,g.ownBlock=some k→k≠r∧k≠m∧k≠c∧¬K k) (k:Keeps (· ≠r) w w')
  (hb:Blk w' r [.pointer (some ⟨m,0,none⟩),g,I σ'.pos,.bool σ'.inn,.bool σ'.may,.bool σ'.off,.bool σ'.over,I σ'.err])
  (hl:σ'.log=s.r.log) (hle:σ'.pos≤s.r.log.length) (hm:s.r.log.length+(if σ'.may then 1 else 0)≤1099511627776):RM w' K r m c ⟨σ',s.m⟩:=
 ⟨⟨g,⟨hb,by rw[hl];exact own_of_keep h.log k (fun b hb=>(hgb b hb).1),by rw[hl];exact hle,by rw[hl];exact hm,by rw[hl];exact h.range⟩,hgb⟩,
  H.mem.keep k (fun e=>H.rm e.symm) (fun e=>H.rc e.symm),H.rm,H.rc,H.kr,H.km,H.kc,fun b hb=>by have:=H.lt b hb;have:=k.size;omega⟩
theorem func_nil (f:FuncId)(cap:Array Value)(w:World):
  (binOp .eql 53 (.func (.func f) #[] cap) .nilFunc).run Tryz.prog w= .ok (.bool false) w:=by kernel_rfl
set_option maxRecDepth 100000 in
set_option maxHeartbeats 400000 in
theorem run_step {w:World}{K:Nat→Prop}{r m c:Nat}{s:St}(h:RM w K r m c s)(hov:s.r.over=false)(hlen:s.r.log.length<1099511627776)
  {α:Type} (f:FuncId) (cap:Array Value)
  (hent:∀(args:Array Value) (w:World),(callFunc f args).run Tryz.prog w= .ok (.enter f args) w) (t:Tree α) (R2:World→Prop)
  (hp:∀w1,Keeps K w w1→RM w1 K r m c ⟨s.r.begin,s.m⟩→Z f (#[.pointer (some ⟨r,0,none⟩)]++cap) w1 fun e w2=>
   e= .returned (.tuple #[])∧RM w2 K r m c (t.exec ⟨s.r.begin,s.m⟩).2∧R2 w2):
  Z 17 #[.pointer (some ⟨r,0,none⟩),.func (.func f) #[] cap] w fun e w'=>
   e= .returned (.bool (s.step t).2.r.over)∧RM w' K r m c (s.step t).2∧∃w2,R2 w2∧Keeps (· ≠r) w2 w':=by
 obtain⟨g,hb,hrun,hgb⟩:=h.obj8;have⟨c0,c1,c2,c3,c4,c5,c6,c7,fz⟩:=hrun.facts;rw[hov]at c6;have H:=hid h;have HB:=hid hb;have HR:=hid hrun;have HP:=hid hp;have HL:=hid hlen;have HO:=hid hov;clear h hb hrun hp hlen hov;refine calls_hide fun R' hR'=>?_;have hnf:=func_nil f cap
 go_enter Tryz.func17,Tryz.ntmps17
 go_wp2_with fail
 have hk:Keeps (· ≠r) w ((((w.setCell ⟨r,2,none⟩ (I 0)).setCell ⟨r,3,none⟩ (.bool true)).setCell ⟨r,4,none⟩ (.bool true)).setCell ⟨r,5,none⟩ (.bool false)):=
  ((((Keeps.refl _ w).setCell (by simp) _).setCell (by simp) _).setCell (by simp) _).setCell (by simp) _
 have hb1:=(((HB.out.set 2 (I 0)).set 3 (.bool true)).set 4 (.bool true)).set 5 (.bool false);simp only[List.set]at hb1;have hRM:=H.out.runSet (σ':=s.r.begin) HR.out hgb hk (by simpa[RunS.begin]using hb1) rfl (by simp[RunS.begin]) (by have:=HL.out;simp[RunS.begin];omega)
 refine(HP.out _ (keeps_one hk H.out.kr) hRM).mono ?_;rintro e w2 ⟨rfl,hRM2,hR2⟩;obtain⟨g2,hb2,hrun2,hgb2⟩:=hRM2.obj8;have⟨d0,d1,d2,d3,d4,d5,d6,d7,fz2⟩:=hrun2.facts;have HH2:=hid hR2;have HM2:=hid hRM2;have HB2:=hid hb2;have HR2:=hid hrun2;clear hRM2 hR2 hb2 hrun2 hk hb1 hRM c0 c1 c2 c3 c4 c5 c6 c7 fz;have hst:(s.step t).2=⟨(t.exec ⟨s.r.begin,s.m⟩).2.r.finish,(t.exec ⟨s.r.begin,s.m⟩).2.m⟩:=rfl
 have HST:=hid hst;clear hst;generalize (t.exec ⟨s.r.begin,s.m⟩).2=s2 at*;obtain⟨⟨log,pos,inn,may,off,over,err⟩,μ2⟩:=s2;simp only at d2 d3 d4 d5 d6 d7;have hle2:pos≤log.length:=HR2.out.le;have hro:log.length+(if may then 1 else 0)≤1099511627776:=HR2.out.room
 have HRo:=hid hro;clear hro
 cases off
 ·go_wp2
  have hk2:Keeps (· ≠r) w2 ((w2.setCell ⟨r,3,none⟩ (.bool false)).setCell ⟨r,6,none⟩ (.bool true)):=
   ((Keeps.refl _ w2).setCell (by simp) _).setCell (by simp) _
  refine hR'.out _ _ ⟨by rw[HST.out];rfl,?_,w2,HH2.out,hk2⟩
  rw[HST.out];exact HM2.out.runSet (σ':=RunS.finish ⟨log,pos,inn,may,false,over,err⟩) HR2.out hgb2 hk2
   (by simpa[RunS.finish]using(HB2.out.set 3 (.bool false)).set 6 (.bool true)) rfl hle2 HRo.out
 ·go_wp2
  have hk2:Keeps (· ≠r) w2 ((w2.setCell ⟨r,3,none⟩ (.bool false)).setCell ⟨r,6,none⟩ (.bool (err !=0))):=
   ((Keeps.refl _ w2).setCell (by simp) _).setCell (by simp) _
  have he:(err !=0)=decide (err≠0):=by by_cases h:err=0<;>simp[h]
  refine hR'.out _ _ ⟨by rw[HST.out,RunS.finish];simp only[Bool.not_true,Bool.false_or,←he];rfl,?_,w2,HH2.out,hk2⟩
  rw[HST.out];exact HM2.out.runSet (σ':=RunS.finish ⟨log,pos,inn,may,true,over,err⟩) HR2.out hgb2 hk2
   (by simpa[RunS.finish,he]using(HB2.out.set 3 (.bool false)).set 6 (.bool (err !=0))) rfl hle2 HRo.out
theorem made_blk (w:World)(z:Value)(n:Nat)(T:TypeId):Blk (w.alloc (.cells (madeCells #[z] n) T)) w.heap.size (List.replicate n z):=by
 refine⟨T,?_⟩;have h:madeCells #[z] n=(List.replicate n z).toArray:=by
  apply Array.ext'
  rw[toList_madeCells_one]
 rw[h];exact heap_alloc_new w _
set_option maxHeartbeats 400000 in
theorem mem_new (w:World)(n:Nat)(h1:1≤n)(h2:n≤65536):
  Z 29 #[I n] w fun e w'=>e= .returned (.tuple #[.pointer (some ⟨w.heap.size+1,0,none⟩),I 0])∧
   MemAt w' (w.heap.size+1) w.heap.size ⟨List.replicate n 0,0,0⟩∧Keeps (· <w.heap.size) w w'∧w'.heap.size=w.heap.size+2:=by
 have hmk:=fun w=>run_make_row' (P:=Tryz.prog) 47 32 (J 0) 4 Tryz.underlying47 Tryz.infoU rfl .i64 .i64 n (by omega) (by omega) w
 refine calls_hide fun R' hR'=>?_
 go_enter Tryz.func29,Tryz.ntmps29
 go_wp2
 refine hR'.out _ _ ⟨rfl,?_,?_,?_⟩
 ·have b0:=made_blk w (J 0) n 32;refine⟨?_,?_,by simp,by simpa using h2,by simp;omega,?_⟩
  ·have:=Blk.new (w.alloc (.cells (madeCells #[J 0] n) 32)) [.slice (some ⟨w.heap.size,0,none⟩) n n,I 0,I 0] 98
   simpa using this
  ·simpa using b0.alloc (.cells #[.slice (some ⟨w.heap.size,0,none⟩) n n,I 0,I 0] 98)
  ·intro x hx;rw[List.eq_of_mem_replicate hx];unfold U32;omega
 ·exact((Keeps.refl _ w).alloc (fun b hb=>hb) _).alloc (fun b hb=>by simp;omega) _
 ·simp
theorem mem_newI (w:World)(N:Int)(h1:1≤N)(h2:N≤65536):
  Z 29 #[I N] w fun e w'=>e= .returned (.tuple #[.pointer (some ⟨w.heap.size+1,0,none⟩),I 0])∧
   MemAt w' (w.heap.size+1) w.heap.size ⟨List.replicate N.toNat 0,0,0⟩∧Keeps (· <w.heap.size) w w'∧w'.heap.size=w.heap.size+2:=by
 have h:=mem_new w N.toNat (by omega) (by omega)
 rw[Int.toNat_of_nonneg (by omega)]at h
 exact h
set_option maxHeartbeats 400000 in
theorem step_new (w:World)(m:Nat):
  Z 16 #[.pointer (some ⟨m,0,none⟩)] w fun e w'=>e= .returned (.pointer (some ⟨w.heap.size,0,none⟩))∧
   RunAt w' w.heap.size m (.slice none 0 0) ⟨[],0,false,false,false,false,0⟩∧Keeps (· <w.heap.size) w w'∧w'.heap.size=w.heap.size+1:=by
 refine calls_hide fun R' hR'=>?_
 go_enter Tryz.func16,Tryz.ntmps16
 go_wp2
 refine hR'.out _ _ ⟨rfl,?_,?_,?_⟩
 ·have:=Blk.new w [.pointer (some ⟨m,0,none⟩),.slice none 0 0,I 0,.bool false,.bool false,.bool false,.bool false,I 0] 96;exact⟨by simpa using this,World.ownsRow_nil _ _ _ _,by simp,by simp,fun x hx=>by cases hx⟩
 ·exact(Keeps.refl _ w).alloc (fun b hb=>hb) _
 ·simp
end Go.Proofs.YtogdknnkhkjmcaaGreatDoor
