/- Lemmas on the programs that the statement reaches. -/
import Derived.Test.YtogdknnkhkjmcaaGreatDoorKBase
namespace Go.Proofs.YtogdknnkhkjmcaaGreatDoor
open Go.RowKit
set_option linter.all false
theorem MemAt.keep {K:Nat→Prop}{w w':World}{m c:Nat}{μ:MemS}(h:MemAt w m c μ)(k:Keeps K w w')(hm:K m)(hc:K c):MemAt w' m c μ:=
 ⟨h.obj.keep k hm,h.cells.keep k hc,h.ne,h.small,h.pos,h.range⟩
theorem MemS.at_range {w:World}{m c:Nat}{μ:MemS}(h:MemAt w m c μ){a:Int}(h0:0≤a)(h1:a<μ.cells.length):U32 (μ.at a):=by
 refine h.range _ ?_;unfold MemS.at;rw[List.getD_eq_getElem?_getD,List.getElem?_eq_getElem (by omega),Option.getD_some]
 exact List.getElem_mem _
set_option maxHeartbeats 400000 in
theorem mem_load {w:World}{m c:Nat}{μ:MemS}(h:MemAt w m c μ)(a:Int):
  Z 18 #[.pointer (some ⟨m,0,none⟩),I a] w fun e w'=>
   e= .returned (.tuple #[J (if μ.inb a then μ.at a else 0),I (if μ.inb a then 0 else 2)])∧MemAt w' m c (μ.load a)∧Keeps (· ≠m) w w':=by
 have hs:=h.small;have c0:=h.obj.cell 0;have c1:=h.obj.cell 1;have f1:=h.obj.free 1;have hne:=h.ne;simp only[List.getElem?_cons_zero,List.getElem?_cons_succ]at c0 c1
 by_cases h0:0≤a
 ·by_cases h1:a<μ.cells.length
  ·have hin:μ.inb a=true:=by simp[MemS.inb,h0,h1]
   have cx:w.cell? ⟨c,a.toNat,none⟩=some (J (μ.at a)):=by
    exact c138
   have H:=hid h;have Hin:=hid hin;clear h hin;refine calls_hide fun R' hR'=>?_
   go_enter Tryz.func18,Tryz.ntmps18
   go_wp2
   refine hR'.out _ _ ⟨by rw[Hin.out];rfl,?_,(Keeps.refl _ _).setCell (by simp) _⟩
   unfold MemS.load;rw[Hin.out];exact⟨by simpa using H.out.obj.set 1 (I (wrap64 (μ.loads+1))),H.out.cells.set_ne _ (fun e=>H.out.ne e.symm),H.out.ne,H.out.small,H.out.pos,H.out.range⟩
  ·have hin:μ.inb a=false:=by simp[MemS.inb,h1]
   exact c102
 ·have hin:μ.inb a=false:=by simp[MemS.inb,h0]
  exact c102
set_option maxHeartbeats 400000 in
theorem mem_store {w:World}{m c:Nat}{μ:MemS}(h:MemAt w m c μ)(a v:Int)(hv:U32 v):
  Z 44 #[.pointer (some ⟨m,0,none⟩),I a,J v] w fun e w'=>
   e= .returned (I (if μ.inb a then 0 else 2))∧MemAt w' m c (μ.store a v)∧Keeps (fun b=>b≠m∧b≠c) w w':=by
 have hs:=h.small;have c0:=h.obj.cell 0;have c2:=h.obj.cell 2;have f2:=h.obj.free 2;have hne:=h.ne;simp only[List.getElem?_cons_zero,List.getElem?_cons_succ]at c0 c2
 by_cases h0:0≤a
 ·by_cases h1:a<μ.cells.length
  ·have hin:μ.inb a=true:=by simp[MemS.inb,h0,h1]
   have cx:w.cell? ⟨c,a.toNat,none⟩=some (J (μ.at a)):=by
    exact c138
   have fx:=h.cells.free a.toNat;have H:=hid h;have Hin:=hid hin;clear h hin;refine calls_hide fun R' hR'=>?_
   go_enter Tryz.func44,Tryz.ntmps44
   go_wp2
   refine hR'.out _ _ ⟨by rw[Hin.out];rfl,?_,((Keeps.refl _ _).setCell (by simp) _).setCell (by simp) _⟩
   unfold MemS.store;rw[Hin.out];refine⟨?_,?_,H.out.ne,by simpa using H.out.small,by simpa using H.out.pos,?_⟩
   ·simpa using(H.out.obj.set 2 (I (wrap64 (μ.stores+1)))).set_ne (a:=⟨c,a.toNat,none⟩) (J v) H.out.ne
   ·simpa[List.map_set]using(H.out.cells.set_ne (a:=⟨m,2,none⟩) (I (wrap64 (μ.stores+1))) (fun e=>H.out.ne e.symm)).set a.toNat (J v)
   ·intro x hx
    rcases List.mem_or_eq_of_mem_set hx with hx|hx
    ·exact H.out.range x hx
    ·exact hx▸hv
  ·have hin:μ.inb a=false:=by simp[MemS.inb,h1]
   exact c101
 ·have hin:μ.inb a=false:=by simp[MemS.inb,h0]
  exact c101
theorem RunAt.facts {w:World}{r m:Nat}{g:Value}{σ:RunS}(h:RunAt w r m g σ):
  w.cell? ⟨r,0,none⟩=some (.pointer (some ⟨m,0,none⟩))∧w.cell? ⟨r,1,none⟩=some g∧w.cell? ⟨r,2,none⟩=some (I σ.pos)∧
  w.cell? ⟨r,3,none⟩=some (.bool σ.inn)∧w.cell? ⟨r,4,none⟩=some (.bool σ.may)∧w.cell? ⟨r,5,none⟩=some (.bool σ.off)∧
  w.cell? ⟨r,6,none⟩=some (.bool σ.over)∧w.cell? ⟨r,7,none⟩=some (I σ.err)∧(∀i,w.frozen? ⟨r,i,none⟩=false):=
 ⟨h.obj.cell 0,h.obj.cell 1,h.obj.cell 2,h.obj.cell 3,h.obj.cell 4,h.obj.cell 5,h.obj.cell 6,h.obj.cell 7,h.obj.free⟩
theorem own_slice {w:World}{g:Value}{e n:Nat}{xs:List Value}(h:w.ownsRow 0 e 1 g n xs):
  (g= .slice none 0 0∧n=0∧xs=[])∨∃b cap,g= .slice (some ⟨b,0,none⟩) n cap∧n≤cap∧cap≤maxLen∧∀i:Nat,i<n→w.cell? ⟨b,i,none⟩=xs[i]? :=by
 obtain⟨h1,h2⟩:=h
 rcases h2 with⟨h2,h3⟩|⟨b,cap,cur,hv,hb,hh,hn,hc,hs,ht⟩
 ·subst h3;exact Or.inl ⟨h2,rfl,by simpa using h1⟩
 ·refine Or.inr ⟨b,cap,hv,hn,hc,fun i hi=>?_⟩;subst ht;simp only[World.cell?,hh]
  simp[hi]
theorem own_of_keep {K:Nat→Prop}{w w':World}{g:Value}{e n sz:Nat}{xs:List Value}(h:w.ownsRow 0 e sz g n xs)(k:Keeps K w w')
  (hg:∀b,g.ownBlock=some b→K b):w'.ownsRow 0 e sz g n xs:=by
 obtain⟨h1,h2⟩:=h;refine⟨h1,?_⟩
 rcases h2 with h2|⟨b,cap,cur,hv,hb,hh,hn,hc,hs,ht⟩
 ·exact Or.inl h2
 ·refine Or.inr ⟨b,cap,cur,hv,hb,?_,hn,hc,hs,ht⟩;rw[k.block b (hg b (by rw[hv];rfl))];exact hh
theorem own_ne {w:World}{g:Value}{e n sz:Nat}{xs:List Value}(h:w.ownsRow 0 e sz g n xs):∀b,g.ownBlock=some b→b<w.heap.size:=
 fun b hb=>(h.lt b hb).2
theorem own_len {w:World}{g:Value}{e n:Nat}{xs:List Value}(h:w.ownsRow 0 e 1 g n xs):∃a cap,g= .slice a n cap:=by
 rcases own_slice h with⟨h2,h3,_⟩|⟨b,cap,hv,_⟩
 ·subst h3;exact⟨_,_,h2⟩
 ·exact⟨_,_,hv⟩
theorem RunAt.next {w w':World}{r m:Nat}{g:Value}{σ σ':RunS}(h:RunAt w r m g σ)(k:Keeps (· ≠r) w w')
  (hb:Blk w' r [.pointer (some ⟨m,0,none⟩),g,I σ'.pos,.bool σ'.inn,.bool σ'.may,.bool σ'.off,.bool σ'.over,I σ'.err])
  (hg:∀b,g.ownBlock=some b→b≠r) (hl:σ'.log=σ.log) (hle:σ'.pos≤σ.log.length) (hm:σ'.may=true→σ.may=true):RunAt w' r m g σ' where
 obj:=hb
 log:=by rw[hl];exact own_of_keep h.log k hg
 le:=by rw[hl];exact hle
 room:=by
  have:=h.room;rw[hl]
  cases h1:σ'.may
  ·simp;split at this<;>omega
  ·rw[hm h1]at this;simpa using this
 range:=by rw[hl];exact h.range
set_option maxHeartbeats 400000 in
theorem step_turn {w:World}{r m:Nat}{g:Value}{σ:RunS}(h:RunAt w r m g σ)(hg:∀b,g.ownBlock=some b→b≠r):
  Z 71 #[.pointer (some ⟨r,0,none⟩)] w fun e w'=>
   e= .returned (.tuple #[.bool (σ.turnK==2),.bool (σ.turnK==1)])∧RunAt w' r m g σ.turn∧Keeps (· ≠r) w w':=by
 have⟨c0,c1,c2,c3,c4,c5,c6,c7,f⟩:=h.facts;obtain⟨a,cap,hgv⟩:=own_len h.log;have hle:=h.le;have hroom:=h.room;have H:=hid h;have HG:=hid hg;clear h hg;subst hgv;obtain⟨log,pos,inn,may,off,over,err⟩:=σ;simp only at c2 c3 c4 c5 c6 c7 hle hroom c1;have hL:log.length≤1099511627776:=by split at hroom<;>omega
 clear hroom;refine calls_hide fun R' hR'=>?_
 cases inn
 ·go_enter Tryz.func71,Tryz.ntmps71
  go_wp2
  exact hR'.out _ _ ⟨rfl,H.out,Keeps.refl _ _⟩
 ·cases off
  ·by_cases hp:pos<log.length
   ·go_enter Tryz.func71,Tryz.ntmps71
    go_wp2
    go_quiet (fail)
    go_wp2
    refine hR'.out _ _ ⟨by simp[RunS.turnK,hp],?_,((Keeps.refl _ _).drewN _).setCell (by simp) _⟩
    have e:RunS.turn ⟨log,pos,true,may,false,over,err⟩=⟨log,pos+1,true,may,false,over,err⟩:=by simp[RunS.turn,hp]
    rw[e];exact H.out.next (((Keeps.refl _ _).drewN _).setCell (by simp) _) (by simpa using(H.out.obj.drewN _).set 2 (I ((pos:Int)+1))) HG.out rfl (by simp;omega) (fun h=>h)
   ·cases may
    ·go_enter Tryz.func71,Tryz.ntmps71
     go_wp2
     go_quiet (fail)
     go_wp2
     refine hR'.out _ _ ⟨by simp[RunS.turnK,hp],?_,((Keeps.refl _ _).drewN _).setCell (by simp) _⟩
     have e:RunS.turn ⟨log,pos,true,false,false,over,err⟩=⟨log,pos,true,false,true,over,err⟩:=by simp[RunS.turn,hp]
     rw[e];exact H.out.next (((Keeps.refl _ _).drewN _).setCell (by simp) _) (by simpa using(H.out.obj.drewN _).set 5 (.bool true)) HG.out rfl (by simpa using H.out.le) (fun h=>h)
    ·go_enter Tryz.func71,Tryz.ntmps71
     go_wp2
     go_quiet (fail)
     go_wp2
     refine hR'.out _ _ ⟨by simp[RunS.turnK,hp],?_,((Keeps.refl _ _).drewN _).setCell (by simp) _⟩
     have e:RunS.turn ⟨log,pos,true,true,false,over,err⟩=⟨log,pos,true,false,false,over,err⟩:=by simp[RunS.turn,hp]
     rw[e];exact H.out.next (((Keeps.refl _ _).drewN _).setCell (by simp) _) (by simpa using(H.out.obj.drewN _).set 4 (.bool false)) HG.out rfl (by simpa using H.out.le) (fun h=>by cases h)
  ·go_enter Tryz.func71,Tryz.ntmps71
   go_wp2
   exact hR'.out _ _ ⟨rfl,H.out,Keeps.refl _ _⟩
end Go.Proofs.YtogdknnkhkjmcaaGreatDoor
