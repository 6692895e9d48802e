/- Slices that read as lists. -/
import Derived.Test.YtogdknnkhkjmcaaGreatDoorJBase
import Derived.Test.YtogdknnkhkjmcaaGreatDoorRows
import Derived.Test.YtogdknnkhkjmcaaGreatDoorChecked
namespace Go.Proofs.YtogdknnkhkjmcaaGreatDoor
open Go.RowKit
set_option linter.all false
def SlAt (w:World)(K:Nat→Prop)(size:Nat)(v:Value)(n:Nat)(xs:List Value):Prop:=
 ∃A cap,v= .slice A n cap∧n≤cap∧cap≤maxLen∧xs.length=n*size∧
  (0<n→∃b off,A=some ⟨b,off,none⟩∧K b∧∀j u,xs[j]? =some u→w.cell? ⟨b,off+j,none⟩=some u)
theorem SlAt.keep {w w':World}{K L:Nat→Prop}{size n:Nat}{v:Value}{xs:List Value}(h:SlAt w K size v n xs)(k:Keeps L w w')(hL:∀b,K b→L b):SlAt w' K size v n xs:=by
 obtain⟨A,cap,h1,h2,h3,h4,h5⟩:=h;refine⟨A,cap,h1,h2,h3,h4,fun hn=>?_⟩;obtain⟨b,off,e,hb,hc⟩:=h5 hn;exact⟨b,off,e,hb,fun j u hu=>(World.cell?_of_block (k.block b (hL b hb))).trans (hc j u hu)⟩
theorem SlAt.mono {w:World}{K L:Nat→Prop}{size n:Nat}{v:Value}{xs:List Value}(h:SlAt w K size v n xs)(hL:∀b,K b→L b):SlAt w L size v n xs:=by
 obtain⟨A,cap,h1,h2,h3,h4,h5⟩:=h;refine⟨A,cap,h1,h2,h3,h4,fun hn=>?_⟩;obtain⟨b,off,e,hb,hc⟩:=h5 hn;exact⟨b,off,e,hL b hb,hc⟩
theorem SlAt.get {w:World}{K:Nat→Prop}{v:Value}{xs:List Int}{k:IntKind}(h:SlAt w K 1 v xs.length (xs.map (Value.int k)))(i:Nat)(x:Int)(hi:xs[i]? =some x):
  ∃b off cap,v= .slice (some ⟨b,off,none⟩) xs.length cap∧K b∧w.cell? ⟨b,off+i,none⟩=some (.int k x):=by
 obtain⟨A,cap,h1,h2,h3,h4,h5⟩:=h;have hlt:=(List.getElem?_eq_some_iff.1 hi).1;obtain⟨b,off,e,hb,hc⟩:=h5 (by omega)
 subst e;exact⟨b,off,cap,h1,hb,hc i _ (by rw[List.getElem?_map,hi];rfl)⟩
theorem SlAt.of_blk {w:World}{K:Nat→Prop}{b:Nat}{xs:List Value}(h:Blk w b xs)(hK:K b)(hn:xs.length≤maxLen):SlAt w K 1 (.slice (some ⟨b,0,none⟩) xs.length xs.length) xs.length xs:=
 ⟨_,_,rfl,Nat.le_refl _,hn,(Nat.mul_one _).symm,fun _=>⟨b,0,rfl,hK,fun j u hu=>by rw[Nat.zero_add,h.cell];exact hu⟩⟩
theorem SlAt.form {w:World}{K:Nat→Prop}{size n:Nat}{v:Value}{xs:List Value}(h:SlAt w K size v n xs):∃A cap,v= .slice A n cap∧n≤cap∧cap≤maxLen:=by
 obtain⟨A,cap,h1,h2,h3,_⟩:=h;exact⟨A,cap,h1,h2,h3⟩
end Go.Proofs.YtogdknnkhkjmcaaGreatDoor
namespace Go.Proofs.YtogdknnkhkjmcaaGreatDoor
open Go.RowKit Go.ChangeShapes Go.WideShapes Go.Deep
set_option linter.all false
theorem list_of {α:Type}{Q:Nat→α→Prop}:∀n:Nat,(∀i,i<n→∃x,Q i x)→∃l:List α,l.length=n∧∀i x,l[i]? =some x→Q i x
 |0,_=>⟨[],rfl,fun i x h=>by simp at h⟩
 |n+1,h=>by
  obtain⟨l,h1,h2⟩:=list_of n (fun i hi=>h i (by omega))
  obtain⟨x,hx⟩:=h n (by omega)
  refine⟨l++[x],by simp[h1],fun i y hy=>?_⟩
  rcases Nat.lt_trichotomy i l.length with hi|hi|hi
  ·rw[List.getElem?_append_left hi]at hy;exact h2 i y hy
  ·subst hi;rw[List.getElem?_append_right (Nat.le_refl _)]at hy
   simp at hy;subst hy;rw[h1];exact hx
  ·rw[List.getElem?_append_right (by omega)]at hy
   rw[List.getElem?_eq_none (by simp;omega)]at hy;cases hy
theorem flat_get {α:Type}(f:α→List Value)(size:Nat)(hs:0<size)(hf:∀x,(f x).length=size):∀(l:List α) (j:Nat) (u:Value),(l.flatMap f)[j]? =some u→
  ∃x,l[j/size]? =some x∧(f x)[j%size]? =some u
 | [],j,u,h=>by simp at h
 |x::l,j,u,h=>by
  rw[List.flatMap_cons]at h
  rcases Nat.lt_or_ge j size with hj|hj
  ·rw[List.getElem?_append_left (by rw[hf];exact hj)]at h
   exact⟨x,by rw[Nat.div_eq_of_lt hj];rfl,by rw[Nat.mod_eq_of_lt hj];exact h⟩
  ·rw[List.getElem?_append_right (by rw[hf];exact hj),hf]at h
   obtain⟨y,h1,h2⟩:=flat_get f size hs hf l (j-size) u h;refine⟨y,?_,?_⟩
   ·have e:j/size=(j-size)/size+1:=by rw[Nat.div_eq_sub_div hs hj]
    rw[e];exact h1
   ·rw[Nat.mod_eq_sub_mod hj];exact h2
theorem flat_len {α:Type}(f:α→List Value)(size:Nat)(hf:∀x,(f x).length=size):∀(l:List α),(l.flatMap f).length=l.length*size
 | []=>by simp
 |x::l=>by rw[List.flatMap_cons,List.length_append,hf,flat_len f size hf l,List.length_cons,Nat.succ_mul];omega
set_option maxRecDepth 100000
section
variable {H:Type}{enc:TypeId×Value→H}{w:World}
end
end Go.Proofs.YtogdknnkhkjmcaaGreatDoor
namespace Go.Proofs.YtogdknnkhkjmcaaGreatDoor
open Go.RowKit Go.ChangeShapes Go.WideShapes Go.Deep
set_option linter.all false
set_option maxRecDepth 100000
theorem Tryz.own:ownKnob Tryz.prog.godebug=none:=by kernel_rfl
theorem Tryz.laidOut:laidOutB Tryz.prog=true:=by kernel_rfl
section
variable {H:Type}{enc:TypeId×Value→H}{w:World}
end
theorem arg_kept {H:Type}{enc:TypeId×Value→H}{t:TypeId}(hr:Tryz.prog.readableRec t=true)(hrow:t<Tryz.prog.types.size){W W':World}{v:Value}{d:DataW H}{ps:List MemPlace}
  (h:DataW.Trod enc Tryz.prog W 0 (fun _=>true) true t v d ps) (hb:Keeps (· <W.heap.size) W W') (hlt:∀x∈ps,x.block<W.heap.size):
  DataW.Trod enc Tryz.prog W' 0 (fun b=>decide (b<W.heap.size)) true t v d ps:=Below.trod Tryz.laidOut hr hrow h hb.below hlt
section
variable {H:Type}{enc:TypeId×Value→H}{w:World}
end
end Go.Proofs.YtogdknnkhkjmcaaGreatDoor
namespace Go.Proofs.YtogdknnkhkjmcaaGreatDoor
open Go.RowKit
set_option linter.all false
theorem MemAt.keep {K:Nat→Prop}{w w':World}{m c:Nat}{μ:MemS}(h:MemAt w m c μ)(k:Keeps K w w')(hm:K m)(hc:K c):MemAt w' m c μ:=
 ⟨h.obj.keep k hm,h.cells.keep k hc,h.ne,h.small,h.pos,h.range⟩
theorem MemS.at_range {w:World}{m c:Nat}{μ:MemS}(h:MemAt w m c μ){a:Int}(h0:0≤a)(h1:a<μ.cells.length):U32 (μ.at a):=by
 refine h.range _ ?_;unfold MemS.at;rw[List.getD_eq_getElem?_getD,List.getElem?_eq_getElem (by omega),Option.getD_some]
 exact List.getElem_mem _
set_option maxHeartbeats 400000 in
theorem mem_load {w:World}{m c:Nat}{μ:MemS}(h:MemAt w m c μ)(a:Int):
  Calls Tryz.prog 18 #[.pointer (some ⟨m,0,none⟩),I a] w fun e w'=>
   e= .returned (.tuple #[J (if μ.inb a then μ.at a else 0),I (if μ.inb a then 0 else 2)])∧MemAt w' m c (μ.load a)∧Keeps (· ≠m) w w':=by
 have hs:=h.small;have c0:=h.obj.cell 0;have c1:=h.obj.cell 1;have f1:=h.obj.free 1;have hne:=h.ne;simp only[List.getElem?_cons_zero,List.getElem?_cons_succ]at c0 c1
 by_cases h0:0≤a
 ·by_cases h1:a<μ.cells.length
  ·have hin:μ.inb a=true:=by simp[MemS.inb,h0,h1]
   have cx:w.cell? ⟨c,a.toNat,none⟩=some (J (μ.at a)):=by
    exact c144
   have H:=hid h;have Hin:=hid hin;clear h hin;refine calls_hide fun R' hR'=>?_
   go_enter Tryz.func18,Tryz.ntmps18
   go_wp2
   refine hR'.out _ _ ⟨by rw[Hin.out];rfl,?_,(Keeps.refl _ _).setCell (by simp) _⟩
   unfold MemS.load;rw[Hin.out];exact⟨by simpa using H.out.obj.set 1 (I (wrap64 (μ.loads+1))),H.out.cells.set_ne _ (fun e=>H.out.ne e.symm),H.out.ne,H.out.small,H.out.pos,H.out.range⟩
  ·have hin:μ.inb a=false:=by simp[MemS.inb,h1]
   exact c109
 ·have hin:μ.inb a=false:=by simp[MemS.inb,h0]
  exact c109
set_option maxHeartbeats 400000 in
theorem mem_store {w:World}{m c:Nat}{μ:MemS}(h:MemAt w m c μ)(a v:Int)(hv:U32 v):
  Calls Tryz.prog 44 #[.pointer (some ⟨m,0,none⟩),I a,J v] w fun e w'=>
   e= .returned (I (if μ.inb a then 0 else 2))∧MemAt w' m c (μ.store a v)∧Keeps (fun b=>b≠m∧b≠c) w w':=by
 have hs:=h.small;have c0:=h.obj.cell 0;have c2:=h.obj.cell 2;have f2:=h.obj.free 2;have hne:=h.ne;simp only[List.getElem?_cons_zero,List.getElem?_cons_succ]at c0 c2
 by_cases h0:0≤a
 ·by_cases h1:a<μ.cells.length
  ·have hin:μ.inb a=true:=by simp[MemS.inb,h0,h1]
   have cx:w.cell? ⟨c,a.toNat,none⟩=some (J (μ.at a)):=by
    exact c144
   have fx:=h.cells.free a.toNat;have H:=hid h;have Hin:=hid hin;clear h hin;refine calls_hide fun R' hR'=>?_
   go_enter Tryz.func44,Tryz.ntmps44
   go_wp2
   refine hR'.out _ _ ⟨by rw[Hin.out];rfl,?_,((Keeps.refl _ _).setCell (by simp) _).setCell (by simp) _⟩
   unfold MemS.store;rw[Hin.out];refine⟨?_,?_,H.out.ne,by simpa using H.out.small,by simpa using H.out.pos,?_⟩
   ·simpa using(H.out.obj.set 2 (I (wrap64 (μ.stores+1)))).set_ne (a:=⟨c,a.toNat,none⟩) (J v) H.out.ne
   ·simpa[List.map_set]using(H.out.cells.set_ne (a:=⟨m,2,none⟩) (I (wrap64 (μ.stores+1))) (fun e=>H.out.ne e.symm)).set a.toNat (J v)
   ·intro x hx
    rcases List.mem_or_eq_of_mem_set hx with hx|hx
    ·exact H.out.range x hx
    ·exact hx▸hv
  ·have hin:μ.inb a=false:=by simp[MemS.inb,h1]
   exact c108
 ·have hin:μ.inb a=false:=by simp[MemS.inb,h0]
  exact c108
theorem RunAt.facts {w:World}{r m:Nat}{g:Value}{σ:RunS}(h:RunAt w r m g σ):
  w.cell? ⟨r,0,none⟩=some (.pointer (some ⟨m,0,none⟩))∧w.cell? ⟨r,1,none⟩=some g∧w.cell? ⟨r,2,none⟩=some (I σ.pos)∧
  w.cell? ⟨r,3,none⟩=some (.bool σ.inn)∧w.cell? ⟨r,4,none⟩=some (.bool σ.may)∧w.cell? ⟨r,5,none⟩=some (.bool σ.off)∧
  w.cell? ⟨r,6,none⟩=some (.bool σ.over)∧w.cell? ⟨r,7,none⟩=some (I σ.err)∧(∀i,w.frozen? ⟨r,i,none⟩=false):=
 ⟨h.obj.cell 0,h.obj.cell 1,h.obj.cell 2,h.obj.cell 3,h.obj.cell 4,h.obj.cell 5,h.obj.cell 6,h.obj.cell 7,h.obj.free⟩
theorem own_slice {w:World}{g:Value}{e n:Nat}{xs:List Value}(h:w.ownsRow 0 e 1 g n xs):
  (g= .slice none 0 0∧n=0∧xs=[])∨∃b cap,g= .slice (some ⟨b,0,none⟩) n cap∧n≤cap∧cap≤maxLen∧∀i:Nat,i<n→w.cell? ⟨b,i,none⟩=xs[i]? :=by
 obtain⟨h1,h2⟩:=h
 rcases h2 with⟨h2,h3⟩|⟨b,cap,cur,hv,hb,hh,hn,hc,hs,ht⟩
 ·subst h3;exact Or.inl ⟨h2,rfl,by simpa using h1⟩
 ·refine Or.inr ⟨b,cap,hv,hn,hc,fun i hi=>?_⟩;subst ht;simp only[World.cell?,hh]
  simp[hi]
theorem own_of_keep {K:Nat→Prop}{w w':World}{g:Value}{e n sz:Nat}{xs:List Value}(h:w.ownsRow 0 e sz g n xs)(k:Keeps K w w')
  (hg:∀b,g.ownBlock=some b→K b):w'.ownsRow 0 e sz g n xs:=by
 obtain⟨h1,h2⟩:=h;refine⟨h1,?_⟩
 rcases h2 with h2|⟨b,cap,cur,hv,hb,hh,hn,hc,hs,ht⟩
 ·exact Or.inl h2
 ·refine Or.inr ⟨b,cap,cur,hv,hb,?_,hn,hc,hs,ht⟩;rw[k.block b (hg b (by rw[hv];rfl))];exact hh
theorem own_ne {w:World}{g:Value}{e n sz:Nat}{xs:List Value}(h:w.ownsRow 0 e sz g n xs):∀b,g.ownBlock=some b→b<w.heap.size:=
 fun b hb=>(h.lt b hb).2
theorem own_len {w:World}{g:Value}{e n:Nat}{xs:List Value}(h:w.ownsRow 0 e 1 g n xs):∃a cap,g= .slice a n cap:=by
 rcases own_slice h with⟨h2,h3,_⟩|⟨b,cap,hv,_⟩
 ·subst h3;exact⟨_,_,h2⟩
 ·exact⟨_,_,hv⟩
theorem RunAt.next {w w':World}{r m:Nat}{g:Value}{σ σ':RunS}(h:RunAt w r m g σ)(k:Keeps (· ≠r) w w')
  (hb:Blk w' r [.pointer (some ⟨m,0,none⟩),g,I σ'.pos,.bool σ'.inn,.bool σ'.may,.bool σ'.off,.bool σ'.over,I σ'.err])
  (hg:∀b,g.ownBlock=some b→b≠r) (hl:σ'.log=σ.log) (hle:σ'.pos≤σ.log.length) (hm:σ'.may=true→σ.may=true):RunAt w' r m g σ' where
 obj:=hb
 log:=by rw[hl];exact own_of_keep h.log k hg
 le:=by rw[hl];exact hle
 room:=by
  have:=h.room;rw[hl]
  cases h1:σ'.may
  ·simp;split at this<;>omega
  ·rw[hm h1]at this;simpa using this
 range:=by rw[hl];exact h.range
set_option maxHeartbeats 400000 in
theorem step_turn {w:World}{r m:Nat}{g:Value}{σ:RunS}(h:RunAt w r m g σ)(hg:∀b,g.ownBlock=some b→b≠r):
  Calls Tryz.prog 71 #[.pointer (some ⟨r,0,none⟩)] w fun e w'=>
   e= .returned (.tuple #[.bool (σ.turnK==2),.bool (σ.turnK==1)])∧RunAt w' r m g σ.turn∧Keeps (· ≠r) w w':=by
 have⟨c0,c1,c2,c3,c4,c5,c6,c7,f⟩:=h.facts;obtain⟨a,cap,hgv⟩:=own_len h.log;have hle:=h.le;have hroom:=h.room;have H:=hid h;have HG:=hid hg;clear h hg;subst hgv;obtain⟨log,pos,inn,may,off,over,err⟩:=σ;simp only at c2 c3 c4 c5 c6 c7 hle hroom c1;have hL:log.length≤1099511627776:=by split at hroom<;>omega
 clear hroom;refine calls_hide fun R' hR'=>?_
 cases inn
 ·go_enter Tryz.func71,Tryz.ntmps71
  go_wp2
  exact hR'.out _ _ ⟨rfl,H.out,Keeps.refl _ _⟩
 ·cases off
  ·by_cases hp:pos<log.length
   ·go_enter Tryz.func71,Tryz.ntmps71
    go_wp2
    go_quiet (fail)
    go_wp2
    refine hR'.out _ _ ⟨by simp[RunS.turnK,hp],?_,((Keeps.refl _ _).drewN _).setCell (by simp) _⟩
    have e:RunS.turn ⟨log,pos,true,may,false,over,err⟩=⟨log,pos+1,true,may,false,over,err⟩:=by simp[RunS.turn,hp]
    rw[e];exact H.out.next (((Keeps.refl _ _).drewN _).setCell (by simp) _) (by simpa using(H.out.obj.drewN _).set 2 (I ((pos:Int)+1))) HG.out rfl (by simp;omega) (fun h=>h)
   ·cases may
    ·go_enter Tryz.func71,Tryz.ntmps71
     go_wp2
     go_quiet (fail)
     go_wp2
     refine hR'.out _ _ ⟨by simp[RunS.turnK,hp],?_,((Keeps.refl _ _).drewN _).setCell (by simp) _⟩
     have e:RunS.turn ⟨log,pos,true,false,false,over,err⟩=⟨log,pos,true,false,true,over,err⟩:=by simp[RunS.turn,hp]
     rw[e];exact H.out.next (((Keeps.refl _ _).drewN _).setCell (by simp) _) (by simpa using(H.out.obj.drewN _).set 5 (.bool true)) HG.out rfl (by simpa using H.out.le) (fun h=>h)
    ·go_enter Tryz.func71,Tryz.ntmps71
     go_wp2
     go_quiet (fail)
     go_wp2
     refine hR'.out _ _ ⟨by simp[RunS.turnK,hp],?_,((Keeps.refl _ _).drewN _).setCell (by simp) _⟩
     have e:RunS.turn ⟨log,pos,true,true,false,over,err⟩=⟨log,pos,true,false,false,over,err⟩:=by simp[RunS.turn,hp]
     rw[e];exact H.out.next (((Keeps.refl _ _).drewN _).setCell (by simp) _) (by simpa using(H.out.obj.drewN _).set 4 (.bool false)) HG.out rfl (by simpa using H.out.le) (fun h=>by cases h)
  ·go_enter Tryz.func71,Tryz.ntmps71
   go_wp2
   exact hR'.out _ _ ⟨rfl,H.out,Keeps.refl _ _⟩
end Go.Proofs.YtogdknnkhkjmcaaGreatDoor
