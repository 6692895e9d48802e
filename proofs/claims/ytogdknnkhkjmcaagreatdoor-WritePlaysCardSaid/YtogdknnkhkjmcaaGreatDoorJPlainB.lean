/- Contracts: mem.New, step.New, a Step of a run that is over; Loads, Stores, Cells. -/
import Derived.Test.YtogdknnkhkjmcaaGreatDoorJStepE
namespace Go.Proofs.YtogdknnkhkjmcaaGreatDoor
open Go.RowKit
set_option linter.all false
theorem made_blk (w:World)(z:Value)(n:Nat)(T:TypeId):Blk (w.alloc (.cells (madeCells #[z] n) T)) w.heap.size (List.replicate n z):=by
 refine⟨T,?_⟩;have h:madeCells #[z] n=(List.replicate n z).toArray:=by
  apply Array.ext'
  rw[toList_madeCells_one]
 rw[h];exact heap_alloc_new w _
set_option maxHeartbeats 400000 in
theorem mem_new (w:World)(n:Nat)(h1:1≤n)(h2:n≤65536):
  Calls Tryz.prog 29 #[I n] w fun e w'=>e= .returned (.tuple #[.pointer (some ⟨w.heap.size+1,0,none⟩),I 0])∧
   MemAt w' (w.heap.size+1) w.heap.size ⟨List.replicate n 0,0,0⟩∧Keeps (· <w.heap.size) w w'∧w'.heap.size=w.heap.size+2:=by
 have hmk:=fun w=>run_make_row' (P:=Tryz.prog) 47 32 (J 0) 4 Tryz.underlying47 Tryz.infoU rfl .i64 .i64 n (by omega) (by omega) w
 refine calls_hide fun R' hR'=>?_
 go_enter Tryz.func29,Tryz.ntmps29
 go_wp2
 refine hR'.out _ _ ⟨rfl,?_,?_,?_⟩
 ·have b0:=made_blk w (J 0) n 32;refine⟨?_,?_,by simp,by simpa using h2,by simp;omega,?_⟩
  ·have:=Blk.new (w.alloc (.cells (madeCells #[J 0] n) 32)) [.slice (some ⟨w.heap.size,0,none⟩) n n,I 0,I 0] 98
   simpa using this
  ·simpa using b0.alloc (.cells #[.slice (some ⟨w.heap.size,0,none⟩) n n,I 0,I 0] 98)
  ·intro x hx;rw[List.eq_of_mem_replicate hx];unfold U32;omega
 ·exact((Keeps.refl _ w).alloc (fun b hb=>hb) _).alloc (fun b hb=>by simp;omega) _
 ·simp
theorem mem_newI (w:World)(N:Int)(h1:1≤N)(h2:N≤65536):
  Calls Tryz.prog 29 #[I N] w fun e w'=>e= .returned (.tuple #[.pointer (some ⟨w.heap.size+1,0,none⟩),I 0])∧
   MemAt w' (w.heap.size+1) w.heap.size ⟨List.replicate N.toNat 0,0,0⟩∧Keeps (· <w.heap.size) w w'∧w'.heap.size=w.heap.size+2:=by
 have h:=mem_new w N.toNat (by omega) (by omega)
 rw[Int.toNat_of_nonneg (by omega)]at h
 exact h
set_option maxHeartbeats 400000 in
theorem step_new (w:World)(m:Nat):
  Calls Tryz.prog 16 #[.pointer (some ⟨m,0,none⟩)] w fun e w'=>e= .returned (.pointer (some ⟨w.heap.size,0,none⟩))∧
   RunAt w' w.heap.size m (.slice none 0 0) ⟨[],0,false,false,false,false,0⟩∧Keeps (· <w.heap.size) w w'∧w'.heap.size=w.heap.size+1:=by
 refine calls_hide fun R' hR'=>?_
 go_enter Tryz.func16,Tryz.ntmps16
 go_wp2
 refine hR'.out _ _ ⟨rfl,?_,?_,?_⟩
 ·have:=Blk.new w [.pointer (some ⟨m,0,none⟩),.slice none 0 0,I 0,.bool false,.bool false,.bool false,.bool false,I 0] 96;exact⟨by simpa using this,World.ownsRow_nil _ _ _ _,by simp,by simp,fun x hx=>by cases hx⟩
 ·exact(Keeps.refl _ w).alloc (fun b hb=>hb) _
 ·simp
set_option maxHeartbeats 400000 in
theorem mem_stores {w:World}{m c:Nat}{μ:MemS}(h:MemAt w m c μ):
  Calls Tryz.prog 25 #[.pointer (some ⟨m,0,none⟩)] w fun e w'=>e= .returned (I μ.stores)∧w=w':=by
 have c2:=h.obj.cell 2;simp only[List.getElem?_cons_zero,List.getElem?_cons_succ]at c2;clear h;refine calls_hide fun R' hR'=>?_
 go_enter Tryz.func25,Tryz.ntmps25
 go_wp2
 exact hR'.out _ _ ⟨rfl,rfl⟩
section
variable {w w':World}{K K':Nat→Prop}{r m c:Nat}{s:St}
theorem RM.mono (h:RM w K r m c s)(hK:∀b,K' b→K b):RM w K' r m c s:=by
 obtain⟨g,h1,h2⟩:=h.run;exact⟨⟨g,h1,fun k hk=>⟨(h2 k hk).1,(h2 k hk).2.1,(h2 k hk).2.2.1,fun e=>(h2 k hk).2.2.2 (hK _ e)⟩⟩,h.mem,h.rm,h.rc,fun e=>h.kr (hK _ e),fun e=>h.km (hK _ e),fun e=>h.kc (hK _ e),fun b hb=>h.lt b (hK b hb)⟩
theorem RM.keep (h:RM w K r m c s)(L:Nat→Prop)(k:Keeps L w w')(hL:∀b,b<w.heap.size→¬K b→L b):RM w' K r m c s:=by
 obtain⟨g,h1,h2⟩:=h.run;have hr:=hL r h1.obj.lt h.kr;have hm:=hL m h.mem.obj.lt h.km;have hc:=hL c h.mem.cells.lt h.kc;exact⟨⟨g,h1.keep k hr (fun b hb=>hL b (own_ne h1.log b hb) (h2 b hb).2.2.2),h2⟩,h.mem.keep k hm hc,h.rm,h.rc,h.kr,h.km,h.kc,fun b hb=>by have:=h.lt b hb;have:=k.size;omega⟩
theorem RM.below (h:RM w K r m c s)(k:Keeps (· <w.heap.size) w w'):RM w' K r m c s:=h.keep _ k fun _ hb _=>hb
theorem RM.setK (h:RM w K r m c s){a:Addr}(ha:K a.block)(v:Value):RM (w.setCell a v) K r m c s:=
 h.keep (· ≠a.block) ((Keeps.refl _ _).setCell (by simp) _) fun _ _ hb e=>hb (e▸ha)
theorem RM.drew (h:RM w K r m c s):RM w.drew K r m c s:=h.keep (fun _=>True) ((Keeps.refl _ _).drew) fun _ _ _=>trivial
theorem RM.alloc (h:RM w K r m c s)(o:Obj):RM (w.alloc o) K r m c s:=h.below ((Keeps.refl _ _).alloc (fun _ hb=>hb) o)
theorem RM.lts (h:RM w K r m c s):r<w.heap.size∧m<w.heap.size∧c<w.heap.size:=by
 obtain⟨g,h1,_⟩:=h.run;exact⟨h1.obj.lt,h.mem.obj.lt,h.mem.cells.lt⟩
theorem RM.more (h:RM w K r m c s)(o:Obj):RM (w.alloc o) (fun b=>K b∨b=w.heap.size) r m c s:=by
 have hl:=h.lts;obtain⟨g,h1,h2⟩:=(h.alloc o).run;obtain⟨g0,h10,h20⟩:=h.run;have e:g=g0:=by
  have a:=h1.obj.inj (h10.obj.alloc o);simp only[List.cons.injEq]at a;exact a.2.1
 subst e;refine⟨⟨g,h1,fun k hk=>⟨(h2 k hk).1,(h2 k hk).2.1,(h2 k hk).2.2.1,?_⟩⟩,(h.alloc o).mem,h.rm,h.rc,?_,?_,?_,?_⟩
 ·rintro(e|e)
  ·exact(h2 k hk).2.2.2 e
  ·have:=own_ne h10.log k hk;omega
 ·rintro(e|e);exact h.kr e;omega
 ·rintro(e|e);exact h.km e;omega
 ·rintro(e|e);exact h.kc e;omega
 ·rintro b (e|e)
  ·have:=h.lt b e;simp;omega
  ·simp;omega
theorem RM.moreB (h:RM w K r m c s)(k:Keeps (· <w.heap.size) w w'):
  RM w' (fun b=>K b∨(w.heap.size≤b∧b<w'.heap.size)) r m c s:=by
 have hl:=h.lts;obtain⟨g,h1,h2⟩:=(h.below k).run;obtain⟨g0,h10,h20⟩:=h.run;have e:g=g0:=by
  have a:=h1.obj.inj (h10.obj.keep k hl.1);simp only[List.cons.injEq]at a;exact a.2.1
 subst e;have hs:=k.size;refine⟨⟨g,h1,fun x hk=>⟨(h2 x hk).1,(h2 x hk).2.1,(h2 x hk).2.2.1,?_⟩⟩,(h.below k).mem,h.rm,h.rc,?_,?_,?_,?_⟩
 ·rintro(e|e)
  ·exact(h2 x hk).2.2.2 e
  ·have:=own_ne h10.log x hk;omega
 ·rintro(e|e);exact h.kr e;omega
 ·rintro(e|e);exact h.km e;omega
 ·rintro(e|e);exact h.kc e;omega
 ·rintro b (e|e)
  ·have:=h.lt b e;omega
  ·omega
end
theorem RM.load_u32 {w:World}{K:Nat→Prop}{r m c:Nat}{s:St}(h:RM w K r m c s)(a:Int):U32 (s.load a).1:=by
 obtain⟨g,h1,_⟩:=h.run;unfold St.load
 split
 ·split
  ·rename_i hi
   have:0≤a∧a<s.m.cells.length:=by simpa[MemS.inb]using hi
   exact MemS.at_range h.mem this.1 this.2
  ·unfold U32;simp
 ·split
  ·show U32 (s.r.log.getD s.r.pos 0);rw[List.getD_eq_getElem?_getD]
   cases hg:s.r.log[s.r.pos]? with
   |none=>unfold U32;simp
   |some x=>exact h1.range _ (List.mem_of_getElem? hg)
  ·unfold U32;simp
namespace Tree
def norm {α:Type}:Tree α→Tree α
 |ret x=>ret x
 |load a k=>load a k
 |store a v k=>store a v k
 |off k=>(k false).norm
def peel {α:Type}:Tree α→List Int→Tree α
 |ret x,_=>ret x
 |load a k,[]=>load a k
 |load _ k,v::L=>(k v).peel L
 |store a v k,[]=>store a v k
 |store _ _ k,_::L=>k.peel L
 |off k,L=>(k false).peel L
def takes {α:Type}:Tree α→List Int→Prop
 |ret _,L=>L=[]
 |load _ _,[]=>True
 |load _ k,v::L=>(k v).takes L
 |store _ _ _,[]=>True
 |store _ _ k,_::L=>k.takes L
 |off k,L=>(k false).takes L
def isRet {α:Type}:Tree α→Bool
 |ret _=>true
 |_=>false
def go {α:Type}:Tree α→Int→Tree α
 |load _ k,v=>(k v).norm
 |store _ _ k,_=>k.norm
 |t,_=>t
def acts {α:Type}:Tree α→Bool
 |load _ _=>true
 |store _ _ _=>true
 |_=>false
theorem peel_nil {α:Type}(t:Tree α):t.peel []=t.norm:=by
 exact c101
theorem takes_nil {α:Type}(t:Tree α):t.takes []:=by
 induction t with
 |ret x=>exact rfl
 |load a k ih=>trivial
 |store a v k ih=>trivial
 |off k ih=>exact ih false
theorem norm_norm {α:Type}(t:Tree α):t.norm.norm=t.norm:=by
 exact c101
theorem peel_norm {α:Type}(t:Tree α):∀L,(t.peel L).norm=t.peel L:=by
 induction t with
 |ret x=>intro L;rfl
 |load a k ih=>intro L;cases L with|nil=>rfl|cons v L=>exact ih v L
 |store a v k ih=>intro L;cases L with|nil=>rfl|cons v L=>exact ih L
 |off k ih=>intro L;exact ih false L
theorem peel_snoc {α:Type}(t:Tree α):∀L v,(t.peel L).acts=true→t.takes L→t.peel (L++[v])=(t.peel L).go v∧t.takes (L++[v]):=by
 induction t with
 |ret x=>intro L v h;cases L<;>cases h
 |load a k ih=>
  intro L v h ht
  cases L with
  |nil=>exact⟨peel_nil _,takes_nil _⟩
  |cons u L=>exact ih u L v h ht
 |store a x k ih=>
  intro L v h ht
  cases L with
  |nil=>exact⟨peel_nil _,takes_nil _⟩
  |cons u L=>exact ih L v h ht
 |off k ih=>intro L v h ht;exact ih false L v h ht
theorem norm_cases {α:Type}(t:Tree α)(h:t.norm=t):(∃x,t=ret x)∨(∃a k,t=load a k)∨(∃a v k,t=store a v k):=by
 cases t with
 |ret x=>exact Or.inl ⟨x,rfl⟩
 |load a k=>exact Or.inr (Or.inl ⟨a,k,rfl⟩)
 |store a v k=>exact Or.inr (Or.inr ⟨a,v,k,rfl⟩)
 |off k=>
  exfalso
  have:∀(t u:Tree α),t.norm=u→∀k,u≠off k:=by
   intro t
   induction t with
   |ret x=>rintro u rfl k h;cases h
   |load a k ih=>rintro u rfl k h;cases h
   |store a v k ih=>rintro u rfl k h;cases h
   |off k ih=>rintro u h;exact ih false u h
  exact this _ _ h k rfl
end Tree
theorem exec_off {α:Type}(t:Tree α):∀s:St,s.r.off=true→(t.exec s).2=s:=by
 induction t with
 |ret x=>intro s _;rfl
 |load a k ih=>
  intro s h;have e:s.load a=(0,s):=by simp[St.load,RunS.turnK,RunS.turn,h]
  show((k (s.load a).1).exec (s.load a).2).2=s;rw[e];exact ih _ _ h
 |store a v k ih=>
  intro s h;have e:s.store a v=s:=by simp[St.store,RunS.turnK,RunS.turn,h]
  show(k.exec (s.store a v)).2=s;rw[e];exact ih _ h
 |off k ih=>intro s h;exact ih _ _ h
theorem exec_rest {α:Type}(t:Tree α):∀s:St,s.r.inn=true→s.r.off=false→s.r.pos=s.r.log.length→s.r.may=false→
  (∀x,t.norm= .ret x→t.exec s=(x,s))∧(t.norm.isRet=false→(t.exec s).2=⟨{ s.r with off:=true },s.m⟩):=by
 induction t with
 |ret x=>intro s _ _ _ _;exact⟨fun y h=>(by cases h;rfl),fun h=>(by cases h)⟩
 |load a k ih=>
  intro s h1 h2 h3 h4;refine⟨fun y h=>(by cases h),fun _=>?_⟩
  have e:s.load a=(0,⟨{ s.r with off:=true },s.m⟩):=by simp[St.load,RunS.turnK,RunS.turn,h1,h2,h3,h4]
  show((k (s.load a).1).exec (s.load a).2).2=_;rw[e];exact exec_off _ _ rfl
 |store a v k ih=>
  intro s h1 h2 h3 h4;refine⟨fun y h=>(by cases h),fun _=>?_⟩
  have e:s.store a v=⟨{ s.r with off:=true },s.m⟩:=by simp[St.store,RunS.turnK,RunS.turn,h1,h2,h3,h4]
  show(k.exec (s.store a v)).2=_;rw[e];exact exec_off _ _ rfl
 |off k ih=>
  intro s h1 h2 h3 h4;have e:s.isOff=false:=by simp[St.isOff,h1,h2]
  have:=ih false s h1 h2 h3 h4;show(∀x,(k false).norm= .ret x→(k s.isOff).exec s=(x,s))∧((k false).norm.isRet=false→((k s.isOff).exec s).2=_);rw[e];exact this
theorem exec_peel {α:Type}(t:Tree α):∀(L:List Int) (s:St),s.r.inn=true→s.r.off=false→s.r.pos≤s.r.log.length→s.r.log.drop s.r.pos=L→t.takes L→
  t.exec s=(t.peel L).exec ⟨{ s.r with pos:=s.r.log.length },s.m⟩:=by
 induction t with
 |ret x=>
  intro L s h1 h2 h3 h4 h5;have:L=[]:=h5;subst this;have hp:s.r.pos=s.r.log.length:=by
   exact c132
  show(x,s)=(x,_);rw[←hp]
 |load a k ih=>
  intro L s h1 h2 h3 h4 h5
  cases L with
  |nil=>
   have hp:s.r.pos=s.r.log.length:=by
    exact c132
   show(Tree.load a k).exec s=(Tree.load a k).exec _;rw[←hp]
  |cons v L=>
   have hlt:s.r.pos<s.r.log.length:=by
    exact c132
   have hv:s.r.log.getD s.r.pos 0=v:=by
    have:=congrArg (·[0]?) h4
    simp at this
    rw[List.getD_eq_getElem?_getD,this];rfl
   have hd:s.r.log.drop (s.r.pos+1)=L:=by
    have:=congrArg List.tail h4
    simpa using this
   have e:s.load a=(v,⟨{ s.r with pos:=s.r.pos+1 },s.m⟩):=by simp[St.load,RunS.turnK,RunS.turn,h1,h2,hlt,←hv]
   show(k (s.load a).1).exec (s.load a).2=_;rw[e];exact ih v L ⟨{ s.r with pos:=s.r.pos+1 },s.m⟩ h1 h2 hlt hd h5
 |store a x k ih=>
  intro L s h1 h2 h3 h4 h5
  cases L with
  |nil=>
   have hp:s.r.pos=s.r.log.length:=by
    exact c132
   show(Tree.store a x k).exec s=(Tree.store a x k).exec _;rw[←hp]
  |cons v L=>
   have hlt:s.r.pos<s.r.log.length:=by
    exact c132
   have hd:s.r.log.drop (s.r.pos+1)=L:=by
    have:=congrArg List.tail h4
    simpa using this
   have e:s.store a x=⟨{ s.r with pos:=s.r.pos+1 },s.m⟩:=by simp[St.store,RunS.turnK,RunS.turn,h1,h2,hlt]
   show k.exec (s.store a x)=_;rw[e];exact ih L ⟨{ s.r with pos:=s.r.pos+1 },s.m⟩ h1 h2 hlt hd h5
 |off k ih=>
  intro L s h1 h2 h3 h4 h5;have e:s.isOff=false:=by simp[St.isOff,h1,h2]
  show(k s.isOff).exec s=_;rw[e];exact ih false L s h1 h2 h3 h4 h5
structure Way {α:Type}(t:Tree α)(s:St)(rest:Tree α):Prop where
 takes:t.takes s.r.log
 rest:t.peel s.r.log=rest
 err:s.r.err=0
 over:s.r.over=false
theorem way_end {α:Type}{t:Tree α}{s:St}{x:α}(h:Way t s (.ret x)):
  s.step t=(x,⟨⟨s.r.log,s.r.log.length,false,true,false,true,0⟩,s.m⟩):=by
 have e:=exec_peel t s.r.log ⟨s.r.begin,s.m⟩ rfl rfl (Nat.zero_le _) rfl h.takes;rw[h.rest]at e;unfold St.step;rw[e]
 simp[Tree.exec,RunS.finish,RunS.begin,h.err]
theorem way_load {α:Type}{t:Tree α}{s:St}{a:Int}{k:Int→Tree α}(h:Way t s (.load a k))(hi:s.m.inb a=true):
  (s.step t).2=⟨⟨s.r.log++[s.m.at a],s.r.log.length+1,false,false,!(k (s.m.at a)).norm.isRet,(k (s.m.at a)).norm.isRet,0⟩,s.m.load a⟩∧
  (∀x,(k (s.m.at a)).norm= .ret x→(s.step t).1=x):=by
 have e:=exec_peel t s.r.log ⟨s.r.begin,s.m⟩ rfl rfl (Nat.zero_le _) rfl h.takes;rw[h.rest]at e;have el:(⟨{ s.r.begin with pos:=s.r.begin.log.length },s.m⟩:St).load a=(s.m.at a,⟨⟨s.r.log++[s.m.at a],s.r.log.length+1,true,false,false,s.r.over,0⟩,s.m.load a⟩):=by
  simp[St.load,RunS.turnK,RunS.turn,RunS.begin,RunS.made,hi,h.err]
 have e2:t.exec ⟨s.r.begin,s.m⟩=(k (s.m.at a)).exec ⟨⟨s.r.log++[s.m.at a],s.r.log.length+1,true,false,false,s.r.over,0⟩,s.m.load a⟩:=by
  rw[e];show(k (St.load _ a).1).exec (St.load _ a).2=_;rw[el]
 have hr:=exec_rest (k (s.m.at a)) ⟨⟨s.r.log++[s.m.at a],s.r.log.length+1,true,false,false,s.r.over,0⟩,s.m.load a⟩ rfl rfl (by simp) rfl
 unfold St.step;rw[e2]
 cases hn:(k (s.m.at a)).norm.isRet
 ·have:=hr.2 hn;rw[this];refine⟨by simp[RunS.finish],fun x hx=>?_⟩
  rw[hx]at hn;cases hn
 ·have:∃x,(k (s.m.at a)).norm= .ret x:=by
   cases h:(k (s.m.at a)).norm<;>rw[h]at hn<;>first|exact⟨_,rfl⟩|cases hn
  obtain⟨x,hx⟩:=this;have:=hr.1 x hx;rw[this];refine⟨by simp[RunS.finish],fun y hy=>?_⟩
  rw[hx]at hy;injection hy
theorem way_store {α:Type}{t:Tree α}{s:St}{a v:Int}{k:Tree α}(h:Way t s (.store a v k))(hi:s.m.inb a=true):
  (s.step t).2=⟨⟨s.r.log++[0],s.r.log.length+1,false,false,!k.norm.isRet,k.norm.isRet,0⟩,s.m.store a v⟩∧(∀x,k.norm= .ret x→(s.step t).1=x):=by
 have e:=exec_peel t s.r.log ⟨s.r.begin,s.m⟩ rfl rfl (Nat.zero_le _) rfl h.takes;rw[h.rest]at e;have el:(⟨{ s.r.begin with pos:=s.r.begin.log.length },s.m⟩:St).store a v=⟨⟨s.r.log++[0],s.r.log.length+1,true,false,false,s.r.over,0⟩,s.m.store a v⟩:=by
  simp[St.store,RunS.turnK,RunS.turn,RunS.begin,RunS.made,hi,h.err]
 have e2:t.exec ⟨s.r.begin,s.m⟩=k.exec ⟨⟨s.r.log++[0],s.r.log.length+1,true,false,false,s.r.over,0⟩,s.m.store a v⟩:=by
  rw[e];show k.exec (St.store _ a v)=_;rw[el]
 have hr:=exec_rest k ⟨⟨s.r.log++[0],s.r.log.length+1,true,false,false,s.r.over,0⟩,s.m.store a v⟩ rfl rfl (by simp) rfl
 unfold St.step;rw[e2]
 cases hn:k.norm.isRet
 ·have:=hr.2 hn;rw[this];refine⟨by simp[RunS.finish],fun x hx=>?_⟩
  rw[hx]at hn;cases hn
 ·have:∃x,k.norm= .ret x:=by
   cases h:k.norm<;>rw[h]at hn<;>first|exact⟨_,rfl⟩|cases hn
  obtain⟨x,hx⟩:=this;have:=hr.1 x hx;rw[this];refine⟨by simp[RunS.finish],fun y hy=>?_⟩
  rw[hx]at hy;injection hy
theorem way_start {α:Type}(t:Tree α)(μ:MemS)(b1 b2 b3:Bool)(p:Nat):Way t ⟨⟨[],p,b1,b2,b3,false,0⟩,μ⟩ t.norm:=
 ⟨t.takes_nil,t.peel_nil,rfl,rfl⟩
theorem way_next_load {α:Type}{t:Tree α}{s:St}{a:Int}{k:Int→Tree α}(h:Way t s (.load a k))(hi:s.m.inb a=true)(hn:(k (s.m.at a)).norm.isRet=false):
  Way t (s.step t).2 (k (s.m.at a)).norm:=by
 have hs:=(way_load h hi).1;have hp:=t.peel_snoc s.r.log (s.m.at a) (by rw[h.rest];rfl) h.takes
 rw[hs];exact⟨hp.2,by rw[hp.1,h.rest];rfl,rfl,hn⟩
theorem way_next_store {α:Type}{t:Tree α}{s:St}{a v:Int}{k:Tree α}(h:Way t s (.store a v k))(hi:s.m.inb a=true)(hn:k.norm.isRet=false):
  Way t (s.step t).2 k.norm:=by
 have hs:=(way_store h hi).1;have hp:=t.peel_snoc s.r.log 0 (by rw[h.rest];rfl) h.takes
 rw[hs];exact⟨hp.2,by rw[hp.1,h.rest];rfl,rfl,hn⟩
end Go.Proofs.YtogdknnkhkjmcaaGreatDoor
