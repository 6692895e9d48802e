/- Lemmas on the programs that the statement reaches. -/
import Derived.Test.YtogdknnkhkjmcaaGreatDoorKStepF
import Derived.Test.YtogdknnkhkjmcaaGreatDoorKRegHead
namespace Go.Proofs.YtogdknnkhkjmcaaGreatDoor
open Go.RowKit
set_option linter.all false
section
variable {w w':World}{K K':Nat→Prop}{r m c:Nat}{s:St}
theorem RM.mono (h:RM w K r m c s)(hK:∀b,K' b→K b):RM w K' r m c s:=by
 obtain⟨g,h1,h2⟩:=h.run;exact⟨⟨g,h1,fun k hk=>⟨(h2 k hk).1,(h2 k hk).2.1,(h2 k hk).2.2.1,fun e=>(h2 k hk).2.2.2 (hK _ e)⟩⟩,h.mem,h.rm,h.rc,fun e=>h.kr (hK _ e),fun e=>h.km (hK _ e),fun e=>h.kc (hK _ e),fun b hb=>h.lt b (hK b hb)⟩
theorem RM.keep (h:RM w K r m c s)(L:Nat→Prop)(k:Keeps L w w')(hL:∀b,b<w.heap.size→¬K b→L b):RM w' K r m c s:=by
 obtain⟨g,h1,h2⟩:=h.run;have hr:=hL r h1.obj.lt h.kr;have hm:=hL m h.mem.obj.lt h.km;have hc:=hL c h.mem.cells.lt h.kc;exact⟨⟨g,h1.keep k hr (fun b hb=>hL b (own_ne h1.log b hb) (h2 b hb).2.2.2),h2⟩,h.mem.keep k hm hc,h.rm,h.rc,h.kr,h.km,h.kc,fun b hb=>by have:=h.lt b hb;have:=k.size;omega⟩
theorem RM.below (h:RM w K r m c s)(k:Keeps (· <w.heap.size) w w'):RM w' K r m c s:=h.keep _ k fun _ hb _=>hb
theorem RM.setK (h:RM w K r m c s){a:Addr}(ha:K a.block)(v:Value):RM (w.setCell a v) K r m c s:=
 h.keep (· ≠a.block) ((Keeps.refl _ _).setCell (by simp) _) fun _ _ hb e=>hb (e▸ha)
theorem RM.drew (h:RM w K r m c s):RM w.drew K r m c s:=h.keep (fun _=>True) ((Keeps.refl _ _).drew) fun _ _ _=>trivial
theorem RM.alloc (h:RM w K r m c s)(o:Obj):RM (w.alloc o) K r m c s:=h.below ((Keeps.refl _ _).alloc (fun _ hb=>hb) o)
theorem RM.lts (h:RM w K r m c s):r<w.heap.size∧m<w.heap.size∧c<w.heap.size:=by
 obtain⟨g,h1,_⟩:=h.run;exact⟨h1.obj.lt,h.mem.obj.lt,h.mem.cells.lt⟩
theorem RM.more (h:RM w K r m c s)(o:Obj):RM (w.alloc o) (fun b=>K b∨b=w.heap.size) r m c s:=by
 have hl:=h.lts;obtain⟨g,h1,h2⟩:=(h.alloc o).run;obtain⟨g0,h10,h20⟩:=h.run;have e:g=g0:=by
  have a:=h1.obj.inj (h10.obj.alloc o);simp only[List.cons.injEq]at a;exact a.2.1
 subst e;refine⟨⟨g,h1,fun k hk=>⟨(h2 k hk).1,(h2 k hk).2.1,(h2 k hk).2.2.1,?_⟩⟩,(h.alloc o).mem,h.rm,h.rc,?_,?_,?_,?_⟩
 ·rintro(e|e)
  ·exact(h2 k hk).2.2.2 e
  ·have:=own_ne h10.log k hk;omega
 ·rintro(e|e);exact h.kr e;omega
 ·rintro(e|e);exact h.km e;omega
 ·rintro(e|e);exact h.kc e;omega
 ·rintro b (e|e)
  ·have:=h.lt b e;simp;omega
  ·simp;omega
theorem RM.moreB (h:RM w K r m c s)(k:Keeps (· <w.heap.size) w w'):
  RM w' (fun b=>K b∨(w.heap.size≤b∧b<w'.heap.size)) r m c s:=by
 have hl:=h.lts;obtain⟨g,h1,h2⟩:=(h.below k).run;obtain⟨g0,h10,h20⟩:=h.run;have e:g=g0:=by
  have a:=h1.obj.inj (h10.obj.keep k hl.1);simp only[List.cons.injEq]at a;exact a.2.1
 subst e;have hs:=k.size;refine⟨⟨g,h1,fun x hk=>⟨(h2 x hk).1,(h2 x hk).2.1,(h2 x hk).2.2.1,?_⟩⟩,(h.below k).mem,h.rm,h.rc,?_,?_,?_,?_⟩
 ·rintro(e|e)
  ·exact(h2 x hk).2.2.2 e
  ·have:=own_ne h10.log x hk;omega
 ·rintro(e|e);exact h.kr e;omega
 ·rintro(e|e);exact h.km e;omega
 ·rintro(e|e);exact h.kc e;omega
 ·rintro b (e|e)
  ·have:=h.lt b e;omega
  ·omega
end
theorem RM.load_u32 {w:World}{K:Nat→Prop}{r m c:Nat}{s:St}(h:RM w K r m c s)(a:Int):U32 (s.load a).1:=by
 obtain⟨g,h1,_⟩:=h.run;unfold St.load
 split
 ·split
  ·rename_i hi
   have:0≤a∧a<s.m.cells.length:=by simpa[MemS.inb]using hi
   exact MemS.at_range h.mem this.1 this.2
  ·unfold U32;simp
 ·split
  ·show U32 (s.r.log.getD s.r.pos 0);rw[List.getD_eq_getElem?_getD]
   cases hg:s.r.log[s.r.pos]? with
   |none=>unfold U32;simp
   |some x=>exact h1.range _ (List.mem_of_getElem? hg)
  ·unfold U32;simp
namespace Tree
def norm {α:Type}:Tree α→Tree α
 |ret x=>ret x
 |load a k=>load a k
 |store a v k=>store a v k
 |off k=>(k false).norm
def peel {α:Type}:Tree α→List Int→Tree α
 |ret x,_=>ret x
 |load a k,[]=>load a k
 |load _ k,v::L=>(k v).peel L
 |store a v k,[]=>store a v k
 |store _ _ k,_::L=>k.peel L
 |off k,L=>(k false).peel L
def takes {α:Type}:Tree α→List Int→Prop
 |ret _,L=>L=[]
 |load _ _,[]=>True
 |load _ k,v::L=>(k v).takes L
 |store _ _ _,[]=>True
 |store _ _ k,_::L=>k.takes L
 |off k,L=>(k false).takes L
def isRet {α:Type}:Tree α→Bool
 |ret _=>true
 |_=>false
def go {α:Type}:Tree α→Int→Tree α
 |load _ k,v=>(k v).norm
 |store _ _ k,_=>k.norm
 |t,_=>t
def acts {α:Type}:Tree α→Bool
 |load _ _=>true
 |store _ _ _=>true
 |_=>false
theorem peel_nil {α:Type}(t:Tree α):t.peel []=t.norm:=by
 exact c96
theorem takes_nil {α:Type}(t:Tree α):t.takes []:=by
 induction t with
 |ret x=>exact rfl
 |load a k ih=>trivial
 |store a v k ih=>trivial
 |off k ih=>exact ih false
theorem norm_norm {α:Type}(t:Tree α):t.norm.norm=t.norm:=by
 exact c96
theorem peel_norm {α:Type}(t:Tree α):∀L,(t.peel L).norm=t.peel L:=by
 induction t with
 |ret x=>intro L;rfl
 |load a k ih=>intro L;cases L with|nil=>rfl|cons v L=>exact ih v L
 |store a v k ih=>intro L;cases L with|nil=>rfl|cons v L=>exact ih L
 |off k ih=>intro L;exact ih false L
theorem peel_snoc {α:Type}(t:Tree α):∀L v,(t.peel L).acts=true→t.takes L→t.peel (L++[v])=(t.peel L).go v∧t.takes (L++[v]):=by
 induction t with
 |ret x=>intro L v h;cases L<;>cases h
 |load a k ih=>
  intro L v h ht
  cases L with
  |nil=>exact⟨peel_nil _,takes_nil _⟩
  |cons u L=>exact ih u L v h ht
 |store a x k ih=>
  intro L v h ht
  cases L with
  |nil=>exact⟨peel_nil _,takes_nil _⟩
  |cons u L=>exact ih L v h ht
 |off k ih=>intro L v h ht;exact ih false L v h ht
theorem norm_cases {α:Type}(t:Tree α)(h:t.norm=t):(∃x,t=ret x)∨(∃a k,t=load a k)∨(∃a v k,t=store a v k):=by
 cases t with
 |ret x=>exact Or.inl ⟨x,rfl⟩
 |load a k=>exact Or.inr (Or.inl ⟨a,k,rfl⟩)
 |store a v k=>exact Or.inr (Or.inr ⟨a,v,k,rfl⟩)
 |off k=>
  exfalso
  have:∀(t u:Tree α),t.norm=u→∀k,u≠off k:=by
   intro t
   induction t with
   |ret x=>rintro u rfl k h;cases h
   |load a k ih=>rintro u rfl k h;cases h
   |store a v k ih=>rintro u rfl k h;cases h
   |off k ih=>rintro u h;exact ih false u h
  exact this _ _ h k rfl
end Tree
theorem exec_off {α:Type}(t:Tree α):∀s:St,s.r.off=true→(t.exec s).2=s:=by
 induction t with
 |ret x=>intro s _;rfl
 |load a k ih=>
  intro s h;have e:s.load a=(0,s):=by simp[St.load,RunS.turnK,RunS.turn,h]
  show((k (s.load a).1).exec (s.load a).2).2=s;rw[e];exact ih _ _ h
 |store a v k ih=>
  intro s h;have e:s.store a v=s:=by simp[St.store,RunS.turnK,RunS.turn,h]
  show(k.exec (s.store a v)).2=s;rw[e];exact ih _ h
 |off k ih=>intro s h;exact ih _ _ h
theorem exec_rest {α:Type}(t:Tree α):∀s:St,s.r.inn=true→s.r.off=false→s.r.pos=s.r.log.length→s.r.may=false→
  (∀x,t.norm= .ret x→t.exec s=(x,s))∧(t.norm.isRet=false→(t.exec s).2=⟨{ s.r with off:=true },s.m⟩):=by
 induction t with
 |ret x=>intro s _ _ _ _;exact⟨fun y h=>(by cases h;rfl),fun h=>(by cases h)⟩
 |load a k ih=>
  intro s h1 h2 h3 h4;refine⟨fun y h=>(by cases h),fun _=>?_⟩
  have e:s.load a=(0,⟨{ s.r with off:=true },s.m⟩):=by simp[St.load,RunS.turnK,RunS.turn,h1,h2,h3,h4]
  show((k (s.load a).1).exec (s.load a).2).2=_;rw[e];exact exec_off _ _ rfl
 |store a v k ih=>
  intro s h1 h2 h3 h4;refine⟨fun y h=>(by cases h),fun _=>?_⟩
  have e:s.store a v=⟨{ s.r with off:=true },s.m⟩:=by simp[St.store,RunS.turnK,RunS.turn,h1,h2,h3,h4]
  show(k.exec (s.store a v)).2=_;rw[e];exact exec_off _ _ rfl
 |off k ih=>
  intro s h1 h2 h3 h4;have e:s.isOff=false:=by simp[St.isOff,h1,h2]
  have:=ih false s h1 h2 h3 h4;show(∀x,(k false).norm= .ret x→(k s.isOff).exec s=(x,s))∧((k false).norm.isRet=false→((k s.isOff).exec s).2=_);rw[e];exact this
theorem exec_peel {α:Type}(t:Tree α):∀(L:List Int) (s:St),s.r.inn=true→s.r.off=false→s.r.pos≤s.r.log.length→s.r.log.drop s.r.pos=L→t.takes L→
  t.exec s=(t.peel L).exec ⟨{ s.r with pos:=s.r.log.length },s.m⟩:=by
 induction t with
 |ret x=>
  intro L s h1 h2 h3 h4 h5;have:L=[]:=h5;subst this;have hp:s.r.pos=s.r.log.length:=by
   exact c126
  show(x,s)=(x,_);rw[←hp]
 |load a k ih=>
  intro L s h1 h2 h3 h4 h5
  cases L with
  |nil=>
   have hp:s.r.pos=s.r.log.length:=by
    exact c126
   show(Tree.load a k).exec s=(Tree.load a k).exec _;rw[←hp]
  |cons v L=>
   have hlt:s.r.pos<s.r.log.length:=by
    exact c126
   have hv:s.r.log.getD s.r.pos 0=v:=by
    have:=congrArg (·[0]?) h4
    simp at this
    rw[List.getD_eq_getElem?_getD,this];rfl
   have hd:s.r.log.drop (s.r.pos+1)=L:=by
    have:=congrArg List.tail h4
    simpa using this
   have e:s.load a=(v,⟨{ s.r with pos:=s.r.pos+1 },s.m⟩):=by simp[St.load,RunS.turnK,RunS.turn,h1,h2,hlt,←hv]
   show(k (s.load a).1).exec (s.load a).2=_;rw[e];exact ih v L ⟨{ s.r with pos:=s.r.pos+1 },s.m⟩ h1 h2 hlt hd h5
 |store a x k ih=>
  intro L s h1 h2 h3 h4 h5
  cases L with
  |nil=>
   have hp:s.r.pos=s.r.log.length:=by
    exact c126
   show(Tree.store a x k).exec s=(Tree.store a x k).exec _;rw[←hp]
  |cons v L=>
   have hlt:s.r.pos<s.r.log.length:=by
    exact c126
   have hd:s.r.log.drop (s.r.pos+1)=L:=by
    have:=congrArg List.tail h4
    simpa using this
   have e:s.store a x=⟨{ s.r with pos:=s.r.pos+1 },s.m⟩:=by simp[St.store,RunS.turnK,RunS.turn,h1,h2,hlt]
   show k.exec (s.store a x)=_;rw[e];exact ih L ⟨{ s.r with pos:=s.r.pos+1 },s.m⟩ h1 h2 hlt hd h5
 |off k ih=>
  intro L s h1 h2 h3 h4 h5;have e:s.isOff=false:=by simp[St.isOff,h1,h2]
  show(k s.isOff).exec s=_;rw[e];exact ih false L s h1 h2 h3 h4 h5
structure Way {α:Type}(t:Tree α)(s:St)(rest:Tree α):Prop where
 takes:t.takes s.r.log
 rest:t.peel s.r.log=rest
 err:s.r.err=0
 over:s.r.over=false
theorem way_end {α:Type}{t:Tree α}{s:St}{x:α}(h:Way t s (.ret x)):
  s.step t=(x,⟨⟨s.r.log,s.r.log.length,false,true,false,true,0⟩,s.m⟩):=by
 have e:=exec_peel t s.r.log ⟨s.r.begin,s.m⟩ rfl rfl (Nat.zero_le _) rfl h.takes;rw[h.rest]at e;unfold St.step;rw[e]
 simp[Tree.exec,RunS.finish,RunS.begin,h.err]
theorem way_load {α:Type}{t:Tree α}{s:St}{a:Int}{k:Int→Tree α}(h:Way t s (.load a k))(hi:s.m.inb a=true):
  (s.step t).2=⟨⟨s.r.log++[s.m.at a],s.r.log.length+1,false,false,!(k (s.m.at a)).norm.isRet,(k (s.m.at a)).norm.isRet,0⟩,s.m.load a⟩∧
  (∀x,(k (s.m.at a)).norm= .ret x→(s.step t).1=x):=by
 have e:=exec_peel t s.r.log ⟨s.r.begin,s.m⟩ rfl rfl (Nat.zero_le _) rfl h.takes;rw[h.rest]at e;have el:(⟨{ s.r.begin with pos:=s.r.begin.log.length },s.m⟩:St).load a=(s.m.at a,⟨⟨s.r.log++[s.m.at a],s.r.log.length+1,true,false,false,s.r.over,0⟩,s.m.load a⟩):=by
  simp[St.load,RunS.turnK,RunS.turn,RunS.begin,RunS.made,hi,h.err]
 have e2:t.exec ⟨s.r.begin,s.m⟩=(k (s.m.at a)).exec ⟨⟨s.r.log++[s.m.at a],s.r.log.length+1,true,false,false,s.r.over,0⟩,s.m.load a⟩:=by
  rw[e];show(k (St.load _ a).1).exec (St.load _ a).2=_;rw[el]
 have hr:=exec_rest (k (s.m.at a)) ⟨⟨s.r.log++[s.m.at a],s.r.log.length+1,true,false,false,s.r.over,0⟩,s.m.load a⟩ rfl rfl (by simp) rfl
 unfold St.step;rw[e2]
 cases hn:(k (s.m.at a)).norm.isRet
 ·have:=hr.2 hn;rw[this];refine⟨by simp[RunS.finish],fun x hx=>?_⟩
  rw[hx]at hn;cases hn
 ·have:∃x,(k (s.m.at a)).norm= .ret x:=by
   cases h:(k (s.m.at a)).norm<;>rw[h]at hn<;>first|exact⟨_,rfl⟩|cases hn
  obtain⟨x,hx⟩:=this;have:=hr.1 x hx;rw[this];refine⟨by simp[RunS.finish],fun y hy=>?_⟩
  rw[hx]at hy;injection hy
theorem way_store {α:Type}{t:Tree α}{s:St}{a v:Int}{k:Tree α}(h:Way t s (.store a v k))(hi:s.m.inb a=true):
  (s.step t).2=⟨⟨s.r.log++[0],s.r.log.length+1,false,false,!k.norm.isRet,k.norm.isRet,0⟩,s.m.store a v⟩∧(∀x,k.norm= .ret x→(s.step t).1=x):=by
 have e:=exec_peel t s.r.log ⟨s.r.begin,s.m⟩ rfl rfl (Nat.zero_le _) rfl h.takes;rw[h.rest]at e;have el:(⟨{ s.r.begin with pos:=s.r.begin.log.length },s.m⟩:St).store a v=⟨⟨s.r.log++[0],s.r.log.length+1,true,false,false,s.r.over,0⟩,s.m.store a v⟩:=by
  simp[St.store,RunS.turnK,RunS.turn,RunS.begin,RunS.made,hi,h.err]
 have e2:t.exec ⟨s.r.begin,s.m⟩=k.exec ⟨⟨s.r.log++[0],s.r.log.length+1,true,false,false,s.r.over,0⟩,s.m.store a v⟩:=by
  rw[e];show k.exec (St.store _ a v)=_;rw[el]
 have hr:=exec_rest k ⟨⟨s.r.log++[0],s.r.log.length+1,true,false,false,s.r.over,0⟩,s.m.store a v⟩ rfl rfl (by simp) rfl
 unfold St.step;rw[e2]
 cases hn:k.norm.isRet
 ·have:=hr.2 hn;rw[this];refine⟨by simp[RunS.finish],fun x hx=>?_⟩
  rw[hx]at hn;cases hn
 ·have:∃x,k.norm= .ret x:=by
   cases h:k.norm<;>rw[h]at hn<;>first|exact⟨_,rfl⟩|cases hn
  obtain⟨x,hx⟩:=this;have:=hr.1 x hx;rw[this];refine⟨by simp[RunS.finish],fun y hy=>?_⟩
  rw[hx]at hy;injection hy
theorem way_start {α:Type}(t:Tree α)(μ:MemS)(b1 b2 b3:Bool)(p:Nat):Way t ⟨⟨[],p,b1,b2,b3,false,0⟩,μ⟩ t.norm:=
 ⟨t.takes_nil,t.peel_nil,rfl,rfl⟩
theorem way_next_load {α:Type}{t:Tree α}{s:St}{a:Int}{k:Int→Tree α}(h:Way t s (.load a k))(hi:s.m.inb a=true)(hn:(k (s.m.at a)).norm.isRet=false):
  Way t (s.step t).2 (k (s.m.at a)).norm:=by
 have hs:=(way_load h hi).1;have hp:=t.peel_snoc s.r.log (s.m.at a) (by rw[h.rest];rfl) h.takes
 rw[hs];exact⟨hp.2,by rw[hp.1,h.rest];rfl,rfl,hn⟩
theorem way_next_store {α:Type}{t:Tree α}{s:St}{a v:Int}{k:Tree α}(h:Way t s (.store a v k))(hi:s.m.inb a=true)(hn:k.norm.isRet=false):
  Way t (s.step t).2 k.norm:=by
 have hs:=(way_store h hi).1;have hp:=t.peel_snoc s.r.log 0 (by rw[h.rest];rfl) h.takes
 rw[hs];exact⟨hp.2,by rw[hp.1,h.rest];rfl,rfl,hn⟩
namespace Tree
def ideal {α:Type}:Tree α→List Int→Option (α×List Int×Nat)
 |ret x,cs=>some (x,cs,0)
 |load a k,cs=>if 0≤a∧a<cs.length then((k (cs.getD a.toNat 0)).ideal cs).map fun y=>(y.1,y.2.1,y.2.2+1)else none
 |store a v k,cs=>if 0≤a∧a<cs.length then(k.ideal (cs.set a.toNat v)).map fun y=>(y.1,y.2.1,y.2.2+1)else none
 |off k,cs=>(k false).ideal cs
theorem ideal_norm {α:Type}(t:Tree α)(cs:List Int):t.norm.ideal cs=t.ideal cs:=by
 exact c96
theorem ideal_ret {α:Type}{t:Tree α}{cs cs':List Int}{x:α}{n:Nat}(h:t.ideal cs=some (x,cs',n))(hr:t.norm.isRet=true):t.norm= .ret x∧cs'=cs∧n=0:=by
 rw[←ideal_norm]at h
 cases ht:t.norm with
 |ret y=>rw[ht]at h;injection h with h;injection h with h1 h2;injection h2 with h2 h3;subst h1;exact⟨rfl,h2.symm,h3.symm⟩
 |load a k=>rw[ht]at hr;cases hr
 |store a v k=>rw[ht]at hr;cases hr
 |off k=>rw[ht]at hr;cases hr
theorem ideal_bind {α β:Type}(t:Tree α)(f:α→Tree β):∀cs,(t.bind f).ideal cs=(t.ideal cs).bind fun y=>((f y.1).ideal y.2.1).map fun z=>(z.1,z.2.1,z.2.2+y.2.2):=by
 induction t with
 |ret x=>
  intro cs;show(f x).ideal cs=((f x).ideal cs).map _
  cases(f x).ideal cs<;>rfl
 |load a k ih=>
  intro cs;show(if 0≤a∧a<cs.length then _ else _)=Option.bind (if 0≤a∧a<cs.length then _ else _) _
  split
  ·show(((k _).bind f).ideal cs).map _=_;rw[ih]
   cases(k (cs.getD a.toNat 0)).ideal cs with
   |none=>rfl
   |some y=>
    show(((f y.1).ideal y.2.1).map _).map _=((f y.1).ideal y.2.1).map _
    cases(f y.1).ideal y.2.1<;>simp<;>omega
  ·rfl
 |store a v k ih=>
  intro cs;show(if 0≤a∧a<cs.length then _ else _)=Option.bind (if 0≤a∧a<cs.length then _ else _) _
  split
  ·show((k.bind f).ideal _).map _=_;rw[ih]
   cases k.ideal (cs.set a.toNat v)with
   |none=>rfl
   |some y=>
    show(((f y.1).ideal y.2.1).map _).map _=((f y.1).ideal y.2.1).map _
    cases(f y.1).ideal y.2.1<;>simp<;>omega
  ·rfl
 |off k ih=>intro cs;exact ih false cs
end Tree
theorem inb_iff (μ:MemS)(a:Int):μ.inb a=true↔0≤a∧a<μ.cells.length:=by simp[MemS.inb]
theorem valid_eq (r:Int):Utf8.valid r=((decide (0≤r)&&decide (r<55296))||(decide (57344≤r)&&decide (r≤1114111))):=rfl
set_option maxRecDepth 100000 in
set_option maxHeartbeats 1000000 in
theorem ref4_may (r:Int)(w:World):Calls Tryz.prog 117 #[.int .i32 r] w fun e w'=>e= .returned (.bool (Utf8.valid r))∧w=w':=by
 have hv:=valid_eq r;generalize Utf8.valid r=v at*;have HV:=hid hv;clear hv;refine calls_hide fun R' hR'=>?_
 go_enter Tryz.func117,Tryz.ntmps117
 by_cases h1:0≤r
 ·by_cases h2:r<55296
  ·go_wp2_with fail
   exact hR'.out _ _ ⟨by rw[HV.out];simp[h1,h2],rfl⟩
  ·by_cases h3:57344≤r
   ·by_cases h4:r≤1114111
    ·go_wp2_with fail
     exact hR'.out _ _ ⟨by rw[HV.out];simp[h3,h4],rfl⟩
    ·go_wp2_with fail
     exact hR'.out _ _ ⟨by rw[HV.out];simp[h2,h4],rfl⟩
   ·have hvb:v=false:=by rw[HV.out,decide_eq_false h2,decide_eq_false h3];simp
    clear HV;subst hvb;exact c84
 ·have h3:¬57344≤r:=by omega
  have hvb:v=false:=by rw[HV.out,decide_eq_false h1,decide_eq_false h3];simp
  clear HV;subst hvb;exact c84
theorem u8v_of (n:Nat)(h:n<256):u8v (UInt8.ofNat n)= .int .u8 (n:Int):=by
 unfold u8v;rw[UInt8.toNat_ofNat',Nat.mod_eq_of_lt (by omega)]
theorem encB_of (r:Int)(c:Nat)(hc:c=if Utf8.valid r then r.toNat else 65533):encB r=if c<128 then [UInt8.ofNat c]else if c<2048 then [UInt8.ofNat (192+c/64),UInt8.ofNat (128+c%64)]
  else if c<65536 then [UInt8.ofNat (224+c/4096),UInt8.ofNat (128+c/64%64),UInt8.ofNat (128+c%64)]else [UInt8.ofNat (240+c/262144),UInt8.ofNat (128+c/4096%64),UInt8.ofNat (128+c/64%64),UInt8.ofNat (128+c%64)]:=by
 subst hc;unfold encB;simp only[Utf8.encode,Utf8.runeError]
 repeat' split
 all_goals rfl
theorem valid_max {r:Int}(h:Utf8.valid r=true):0≤r∧r≤1114111:=by
 rw[valid_eq]at h;simp only[Bool.or_eq_true,Bool.and_eq_true,decide_eq_true_eq]at h
 omega
theorem NewB.lit (w:World)(bs:List UInt8)(n:Nat)(T:TypeId)(hT:T=5)(hn:bs.length=n)(hm:n≤4):NewB w (w.alloc (.cells (bs.map u8v).toArray T)) (.slice (some ⟨w.heap.size,0,none⟩) n n) bs:=by
 subst hn;exact⟨own_lit w w.heap.size _ T 1 _ _ hT (by simp) (by unfold maxLen;omega) (Nat.le_refl _),(Keeps.refl _ _).alloc (fun b hb=>hb) _⟩
set_option maxRecDepth 100000 in
set_option maxHeartbeats 4000000 in
theorem ref4_bytes (r:Int)(hr: -2147483648≤r∧r≤2147483647)(w:World):Calls Tryz.prog 112 #[.int .i32 r] w fun e w'=>∃v,e= .returned v∧NewB w w' v (encB r):=by
 obtain⟨c,hc⟩:∃c:Nat,c=if Utf8.valid r then r.toNat else 65533:=⟨_,rfl⟩
 have hen:=encB_of r c hc;have hcm:c≤1114111:=by
  rw[hc]
  split
  ·rename_i h;have:=valid_max h;omega
  ·omega
 obtain⟨x,hx⟩:∃x:Int,x=if Utf8.valid r then r else 65533:=⟨_,rfl⟩
 have hcx:x=(c:Int):=by
  rw[hx,hc]
  cases h:Utf8.valid r with
  |true=>have:=valid_max h;rw[if_pos rfl,if_pos rfl];omega
  |false=>rw[if_neg (by decide),if_neg (by decide)];rfl
 have Hen:=hid hen;have Hc:=hid hc;have Hx:=hid hx;have Hcx:=hid hcx;clear hen hc hx hcx;refine calls_hide fun R' hR'=>?_
 go_enter Tryz.func112,Tryz.ntmps112
 go_wp2_with fail
 refine(ref4_may r w).mono ?_;rintro e w1 ⟨rfl,rfl⟩
 cases hv:Utf8.valid r with
 |true=>
  have hrx:r=(c:Int):=by rw[←Hcx.out,Hx.out,hv,if_pos rfl]
  have hr0:0≤r:=by omega
  have hr1:r≤1114111:=by omega
  clear Hc Hx Hcx hr
  by_cases h1:c<128
  ·have h1I:r<128:=by omega
   have he:=Hen.out;rw[if_pos h1]at he;have hn:=NewB.lit w [UInt8.ofNat c] 1 5 rfl rfl (by decide)
   rw[List.map_cons,List.map_nil,u8v_of c (by omega),←hrx]at hn
   clear hrx h1 hcm hv;exact c81
  have h1I:¬r<128:=by omega
  by_cases h2:c<2048
  ·have h2I:r<2048:=by omega
   have he:=Hen.out;rw[if_neg h1,if_pos h2]at he;have hn:=NewB.lit w [UInt8.ofNat (192+c/64),UInt8.ofNat (128+c%64)] 2 5 rfl rfl (by decide)
   simp only[List.map_cons,List.map_nil]at hn;rw[u8v_of _ (by omega),u8v_of _ (by omega)]at hn
   have e1:((192+c/64:Nat):Int)=192+r/64:=by omega
   have e2:((128+c%64:Nat):Int)=128+r%64:=by omega
   rw[e1,e2]at hn;clear e1 e2 h1 h2 hv hrx hcm;exact c81
  have h2I:¬r<2048:=by omega
  by_cases h3:c<65536
  ·have h3I:r<65536:=by omega
   have he:=Hen.out;rw[if_neg h1,if_neg h2,if_pos h3]at he;have hn:=NewB.lit w [UInt8.ofNat (224+c/4096),UInt8.ofNat (128+c/64%64),UInt8.ofNat (128+c%64)] 3 5 rfl rfl (by decide)
   simp only[List.map_cons,List.map_nil]at hn;rw[u8v_of _ (by omega),u8v_of _ (by omega),u8v_of _ (by omega)]at hn
   have e1:((224+c/4096:Nat):Int)=224+r/4096:=by omega
   have e2:((128+c/64%64:Nat):Int)=128+r/64%64:=by omega
   have e3:((128+c%64:Nat):Int)=128+r%64:=by omega
   rw[e1,e2,e3]at hn;clear e1 e2 e3 h1 h2 h3 hv hrx hcm;exact c81
  ·have h3I:¬r<65536:=by omega
   have he:=Hen.out;rw[if_neg h1,if_neg h2,if_neg h3]at he;have hn:=NewB.lit w [UInt8.ofNat (240+c/262144),UInt8.ofNat (128+c/4096%64),UInt8.ofNat (128+c/64%64),UInt8.ofNat (128+c%64)] 4 5 rfl rfl (by decide)
   simp only[List.map_cons,List.map_nil]at hn;rw[u8v_of _ (by omega),u8v_of _ (by omega),u8v_of _ (by omega),u8v_of _ (by omega)]at hn
   have e0:((240+c/262144:Nat):Int)=240+r/262144:=by omega
   have e1:((128+c/4096%64:Nat):Int)=128+r/4096%64:=by omega
   have e2:((128+c/64%64:Nat):Int)=128+r/64%64:=by omega
   have e3:((128+c%64:Nat):Int)=128+r%64:=by omega
   rw[e0,e1,e2,e3]at hn;clear e0 e1 e2 e3 h1 h2 h3 hv hrx hcm;exact c81
 |false=>
  have hc3:c=65533:=by rw[Hc.out,hv,if_neg (by decide)]
  have he:=Hen.out;rw[hc3]at he;have hn:=NewB.lit w [239,191,189] 3 5 rfl rfl (by decide)
  have He:=hid he;have Hn:=hid hn;clear he hn;clear Hc Hx Hcx Hen hcm hc3
  go_wp2_with fail
  exact hR'.out _ _ ⟨_,rfl,by rw[He.out];exact Hn.out⟩
def byteI (s:ByteArray)(i:Nat):Int:=((s.get! i).toNat:Int)
theorem byteI_bnd (s:ByteArray)(i:Nat):0≤byteI s i∧byteI s i≤255:=by unfold byteI;have:=(s.get! i).toNat_lt;omega
theorem byteI_at (s:ByteArray)(i:Nat)(h:i<s.size):byteI s i=((s[i]).toNat:Int):=by
 obtain⟨d⟩:=s;unfold byteI;have:(⟨d⟩:ByteArray).get! i=d[i]! :=rfl;rw[this,getElem!_pos d i h];rfl
def atP (s:ByteArray)(i:Nat):Int×Int:=if byteI s i<128 then(byteI s i,1)else if(Utf8.decode s i).2=1 then(0,0)else((Utf8.decode s i).1,(Utf8.decode s i).2)
def leadK (b:Int):Int:=if b<192 then 0 else if b<224 then 2 else if b<240 then 3 else if b<248 then 4 else 0
def leadN (b:Int):Int:=if b<224 then b-192 else if b<240 then b-224 else b-240
def accN (s:ByteArray)(i:Nat):Nat→Int
 |0=>leadN (byteI s i)
 |j+1=>accN s i j*64+byteI s (i+(j+1))-128
def contB (s:ByteArray)(i j:Nat):Prop:=∀m,1≤m→m≤j→128≤byteI s (i+m)∧byteI s (i+m)≤191
theorem accN_bnd {s:ByteArray}{i:Nat}(hb:192≤byteI s i∧byteI s i<248):∀j,j≤3→contB s i j→0≤accN s i j∧accN s i j≤32*64^j-1
 |0,_,_=>by
  show 0≤leadN _∧leadN _≤_;unfold leadN
  repeat' split
  all_goals omega
 |j+1,hj,hc=>by
  obtain⟨h1,h2⟩:=accN_bnd hb j (by omega) (fun m a b=>hc m a (by omega))
  have h3:=hc (j+1) (by omega) (Nat.le_refl _)
  have e:(64:Int)^(j+1)=64^j*64:=Int.pow_succ _ _;show 0≤accN s i j*64+byteI s (i+(j+1))-128∧accN s i j*64+byteI s (i+(j+1))-128≤_;generalize (64:Int)^j=p at*
  omega
theorem encB_len {r:Int}(h:Utf8.valid r=true):(encB r).length=if r<128 then 1 else if r<2048 then 2 else if r<65536 then 3 else 4:=by
 have hv:=valid_max h;rw[encB_of r r.toNat (by rw[if_pos h])]
 by_cases h1:r<128
 ·rw[if_pos (by omega),if_pos h1];rfl
 rw[if_neg (by omega),if_neg h1]
 by_cases h2:r<2048
 ·rw[if_pos (by omega),if_pos h2];rfl
 rw[if_neg (by omega),if_neg h2]
 by_cases h3:r<65536
 ·rw[if_pos (by omega),if_pos h3];rfl
 rw[if_neg (by omega),if_neg h3];rfl
theorem atP_one (s:ByteArray)(i:Nat)(h:byteI s i<128):atP s i=(byteI s i,1):=by unfold atP;rw[if_pos h]
theorem decN (s:ByteArray)(i:Nat):∃b0 b1 b2 b3:Nat,byteI s i=b0∧byteI s (i+1)=b1∧byteI s (i+2)=b2∧byteI s (i+3)=b3∧Utf8.decode s i=Lib.decodeN (s.size-i) b0 b1 b2 b3:=
 ⟨_,_,_,_,rfl,rfl,rfl,rfl,Lib.decode_at s i⟩
theorem atP_none (s:ByteArray)(i:Nat)(hi:i<s.size)(h:128≤byteI s i)(hn:leadK (byteI s i)=0∨(s.size:Int)-i<leadK (byteI s i)∨∃m:Nat,1≤m∧(m:Int)<leadK (byteI s i)∧¬(128≤byteI s (i+m)∧byteI s (i+m)≤191)):atP s i=(0,0):=by
 obtain⟨b0,b1,b2,b3,e0,e1,e2,e3,hd⟩:=decN s i;have q0:=byteI_bnd s i;have q1:=byteI_bnd s (i+1);have q2:=byteI_bnd s (i+2);have q3:=byteI_bnd s (i+3);have hm:∀m:Nat,1≤m→m≤3→m=1∨m=2∨m=3:=fun m _ _=>by omega
 unfold atP;rw[if_neg (by omega)]
 have key:(Utf8.decode s i).2=1:=by
  rw[hd];rw[e0]at hn h q0;unfold leadK at hn;unfold Lib.decodeN;have hn2:(b0<192∨248≤b0)∨(192≤b0∧b0<224∧(s.size<i+2∨¬(128≤b1∧b1≤191)))∨(224≤b0∧b0<240∧(s.size<i+3∨¬(128≤b1∧b1≤191)∨¬(128≤b2∧b2≤191)))∨(240≤b0∧b0<248∧(s.size<i+4∨¬(128≤b1∧b1≤191)∨¬(128≤b2∧b2≤191)∨¬(128≤b3∧b3≤191))):=by
   rcases hn with hn|hn|⟨m,m1,m2,m3⟩
   ·repeat' split at hn
    all_goals omega
   ·repeat' split at hn
    all_goals omega
   ·have hm3:m≤3:=by
     repeat' split at m2
     all_goals omega
    rcases hm m m1 hm3 with rfl|rfl|rfl
    ·rw[e1]at m3
     repeat' split at m2
     all_goals omega
    ·rw[e2]at m3
     repeat' split at m2
     all_goals omega
    ·rw[e3]at m3
     repeat' split at m2
     all_goals omega
  clear hn hm;rw[if_neg (by omega)]
  split
  ·exfalso;omega
  split
  ·exfalso;omega
  split
  ·exfalso;omega
  rfl
 rw[if_pos key]
theorem accN1 (s:ByteArray)(i:Nat):accN s i 1=leadN (byteI s i)*64+byteI s (i+1)-128:=rfl
theorem accN2 (s:ByteArray)(i:Nat):accN s i 2=(leadN (byteI s i)*64+byteI s (i+1)-128)*64+byteI s (i+2)-128:=rfl
theorem accN3 (s:ByteArray)(i:Nat):accN s i 3=((leadN (byteI s i)*64+byteI s (i+1)-128)*64+byteI s (i+2)-128)*64+byteI s (i+3)-128:=rfl
theorem atP_some (s:ByteArray)(i j:Nat)(hi:i<s.size)(h:192≤byteI s i∧byteI s i<248)(hk:leadK (byteI s i)=(j:Int)+1)(hs:i+j<s.size)(hc:contB s i j):
  (Utf8.valid (accN s i j)=true∧(encB (accN s i j)).length=j+1→atP s i=(accN s i j,(j:Int)+1))∧(¬(Utf8.valid (accN s i j)=true∧(encB (accN s i j)).length=j+1)→atP s i=(0,0)):=by
 obtain⟨b0,b1,b2,b3,e0,e1,e2,e3,hd⟩:=decN s i;have q0:=byteI_bnd s i;have hlen:∀n:Int,0≤n→n≤2097151→(Utf8.valid n=true∧(encB n).length=j+1↔(n<55296∨(57344≤n∧n≤1114111))∧(if n<128 then 1 else if n<2048 then 2 else if n<65536 then 3 else 4)=j+1):=by
  intro n h0 h1
  constructor
  ·rintro⟨a,b⟩;rw[encB_len a]at b;refine⟨?_,b⟩;rw[valid_eq]at a;simp only[Bool.or_eq_true,Bool.and_eq_true,decide_eq_true_eq]at a
   omega
  ·rintro⟨a,b⟩;have hv:Utf8.valid n=true:=by
    rw[valid_eq];simp only[Bool.or_eq_true,Bool.and_eq_true,decide_eq_true_eq]
    omega
   exact⟨hv,by rw[encB_len hv];exact b⟩
 unfold atP;rw[if_neg (by omega),hd]
 rw[e0]at h hk;unfold leadK at hk;have hj:(192≤b0∧b0<224∧j=1)∨(224≤b0∧b0<240∧j=2)∨(240≤b0∧b0<248∧j=3):=by
  repeat' split at hk
  all_goals omega
 clear hk
 rcases hj with⟨g1,g2,rfl⟩|⟨g1,g2,rfl⟩|⟨g1,g2,rfl⟩
 ·have c1:=hc 1 (by omega) (by omega)
  rw[e1]at c1;have en:accN s i 1=((b0%32*64+b1%64:Nat):Int):=by rw[accN1,e0,e1];unfold leadN;rw[if_pos (by omega)];omega
  rw[en];have hl:=hlen ((b0%32*64+b1%64:Nat):Int) (by omega) (by omega)
  have hx:Lib.decodeN (s.size-i) b0 b1 b2 b3=if b0%32*64+b1%64≥128 then(b0%32*64+b1%64,2)else(65533,1):=by
   unfold Lib.decodeN;rw[if_neg (by omega),if_pos (by omega)]
  rw[hx]
  by_cases hg:b0%32*64+b1%64≥128
  ·rw[if_pos hg,if_neg (by simp)]
   refine⟨fun _=>rfl,fun hn=>?_⟩
   exfalso
   apply hn
   rw[hl,if_neg (by omega),if_pos (by omega)]
   exact⟨by omega,rfl⟩
  ·rw[if_neg hg,if_pos rfl];refine⟨fun hn=>?_,fun _=>rfl⟩
   exfalso
   rw[hl,if_pos (by omega)]at hn
   have:=hn.2
   omega
 ·have c1:=hc 1 (by omega) (by omega)
  have c2:=hc 2 (by omega) (by omega)
  rw[e1]at c1;rw[e2]at c2;have en:accN s i 2=((b0%16*4096+b1%64*64+b2%64:Nat):Int):=by rw[accN2,e0,e1,e2];unfold leadN;rw[if_neg (by omega),if_pos (by omega)];omega
  rw[en];have hl:=hlen ((b0%16*4096+b1%64*64+b2%64:Nat):Int) (by omega) (by omega)
  have hx:Lib.decodeN (s.size-i) b0 b1 b2 b3=if b0%16*4096+b1%64*64+b2%64≥2048∧(b0%16*4096+b1%64*64+b2%64<55296∨(57344≤b0%16*4096+b1%64*64+b2%64∧b0%16*4096+b1%64*64+b2%64≤1114111))then(b0%16*4096+b1%64*64+b2%64,3)else(65533,1):=by
   unfold Lib.decodeN;rw[if_neg (by omega),if_neg (by omega),if_pos (by omega)]
  rw[hx];have hcb:b0%16*4096+b1%64*64+b2%64≤65535:=by omega
  generalize b0%16*4096+b1%64*64+b2%64=c at*
  by_cases hg:c≥2048∧(c<55296∨(57344≤c∧c≤1114111))
  ·rw[if_pos hg,if_neg (by simp)]
   refine⟨fun _=>rfl,fun hn=>?_⟩
   exfalso
   apply hn
   rw[hl,if_neg (by omega),if_neg (by omega),if_pos (by omega)]
   exact⟨by omega,rfl⟩
  ·exact c133
 ·have c1:=hc 1 (by omega) (by omega)
  have c2:=hc 2 (by omega) (by omega)
  have c3:=hc 3 (by omega) (by omega)
  rw[e1]at c1;rw[e2]at c2;rw[e3]at c3;have en:accN s i 3=((b0%8*262144+b1%64*4096+b2%64*64+b3%64:Nat):Int):=by rw[accN3,e0,e1,e2,e3];unfold leadN;rw[if_neg (by omega),if_neg (by omega)];omega
  rw[en];have hl:=hlen ((b0%8*262144+b1%64*4096+b2%64*64+b3%64:Nat):Int) (by omega) (by omega)
  have hx:Lib.decodeN (s.size-i) b0 b1 b2 b3=if b0%8*262144+b1%64*4096+b2%64*64+b3%64≥65536∧(b0%8*262144+b1%64*4096+b2%64*64+b3%64<55296∨(57344≤b0%8*262144+b1%64*4096+b2%64*64+b3%64∧b0%8*262144+b1%64*4096+b2%64*64+b3%64≤1114111))then(b0%8*262144+b1%64*4096+b2%64*64+b3%64,4)else(65533,1):=by
   unfold Lib.decodeN;rw[if_neg (by omega),if_neg (by omega),if_neg (by omega),if_pos (by omega)]
  rw[hx];generalize b0%8*262144+b1%64*4096+b2%64*64+b3%64=c at*
  by_cases hg:c≥65536∧(c<55296∨(57344≤c∧c≤1114111))
  ·rw[if_pos hg,if_neg (by simp)]
   refine⟨fun _=>rfl,fun hn=>?_⟩
   exfalso
   apply hn
   rw[hl,if_neg (by omega),if_neg (by omega),if_neg (by omega)]
   exact⟨by omega,rfl⟩
  ·exact c133
def gB (l:List UInt8)(i:Nat):Nat:=(l[i]?.getD 0).toNat
def dec0 (m:List UInt8):Nat×Nat:=Lib.decodeN m.length (gB m 0) (gB m 1) (gB m 2) (gB m 3)
theorem get_gB (s:ByteArray)(i:Nat):(s.get! i).toNat=gB s.data.toList i:=by
 obtain⟨d⟩:=s;unfold gB;show(d[i]!).toNat=_;rw[Array.getElem!_eq_getD,Array.getD_eq_getD_getElem?,Array.getElem?_toList]
 rfl
theorem bsize (s:ByteArray):s.data.toList.length=s.size:=Array.length_toList
theorem gB_drop (l:List UInt8)(i j:Nat):gB (l.drop i) j=gB l (i+j):=by unfold gB;rw[List.getElem?_drop]
theorem decode_dec0 (s:ByteArray)(p:Nat):Utf8.decode s p=dec0 (s.data.toList.drop p):=by
 rw[Lib.decode_at,get_gB,get_gB,get_gB,get_gB];unfold dec0;rw[gB_drop,gB_drop,gB_drop,gB_drop,List.length_drop]
 rfl
def runesU:Nat→List UInt8→List Int
 |0,_=>[]
 |_+1,[]=>[]
 |f+1,c::m=>((dec0 (c::m)).1:Int)::runesU f ((c::m).drop (dec0 (c::m)).2)
theorem runesF_U (s:ByteArray):∀f p,runesF s f p=runesU f (s.data.toList.drop p)
 |0,_=>rfl
 |f+1,p=>by
  rw[runesF_succ]
  by_cases h:p<s.size
  ·rw[if_pos h,runesF_U s f,decode_dec0];have hl:p<s.data.toList.length:=by simpa using h
   rw[List.drop_eq_getElem_cons hl];show _=_::runesU f _;rw[←List.drop_eq_getElem_cons hl,List.drop_drop]
  ·rw[if_neg h,List.drop_eq_nil_of_le (by have:s.data.toList.length=s.size:=bsize s;omega)]
   rfl
theorem dec0_pos (m:List UInt8):0<(dec0 m).2:=by
 unfold dec0 Lib.decodeN
 repeat' split
 all_goals simp
theorem runesU_more:∀(f:Nat) (m:List UInt8),m.length≤f→runesU (f+1) m=runesU f m
 |0,m,h=>by
  have:m=[]:=List.eq_nil_of_length_eq_zero (by omega)
  subst this;rfl
 |f+1,[],_=>rfl
 |f+1,c::m,h=>by
  have hd:=dec0_pos (c::m);show _::runesU (f+1) _=_::runesU f _;rw[runesU_more f _ (by rw[List.length_drop];omega)]
def runesB (m:List UInt8):List Int:=runesU m.length m
theorem runesU_any (f:Nat)(m:List UInt8)(h:m.length≤f):runesU f m=runesB m:=by
 obtain⟨g,rfl⟩:∃g,f=m.length+g:=⟨f-m.length,by omega⟩
 clear h
 induction g with
 |zero=>rfl
 |succ g ih=>rw[←Nat.add_assoc,runesU_more _ _ (by omega)];exact ih
theorem runesS_B (s:ByteArray):runesS s=runesB s.data.toList:=by
 unfold runesS;rw[runesF_U,List.drop_zero];exact runesU_any _ _ (by rw[bsize];exact Nat.le_refl _)
theorem runesB_cons (c:UInt8)(m:List UInt8):runesB (c::m)=((dec0 (c::m)).1:Int)::runesB ((c::m).drop (dec0 (c::m)).2):=by
 have hd:=dec0_pos (c::m);show _::runesU m.length _=_;rw[runesU_any _ _ (by rw[List.length_drop,List.length_cons];omega)]
def Small (x:Int):Prop:= -1099511627776≤x∧x≤1099511627776
def layT (b d id ln born:Int):Tree Unit:= .store (b+4*d+1) id (.store (b+4*d+2) ln (.store (b+4*d+0) born (.ret ())))
def killT (b d v:Int):Tree Unit:= .store (b+4*d+3) v (.ret ())
def findT (b id:Int):Nat→Nat→Tree Int
 |0,_=> .ret (-1)
 |n+1,d=> .load (b+4*d+1) fun x=> .off fun o=>if o=true then .ret (-1)else if x=id then .ret d else findT b id n (d+1)
set_option maxHeartbeats 400000 in
theorem table_lay {w:World}{K:Nat→Prop}{r m c:Nat}{s:St}(h:RM w K r m c s)(b d id ln born:Int)(hb:Small b)(hd:Small d)(hi:U32 id)(hl:U32 ln)(hn:U32 born):
  Z 56 #[.pointer (some ⟨r,0,none⟩),I b,I d,J id,J ln,J born] w fun e w'=>
   e= .returned (.tuple #[])∧RM w' K r m c ((layT b d id ln born).exec s).2∧Keeps K w w':=by
 obtain⟨b0,b1⟩:=hb;obtain⟨d0,d1⟩:=hd;have H:=hid h;clear h;refine calls_hide fun R' hR'=>?_
 go_enter Tryz.func56,Tryz.ntmps56
 go_wp2_with fail
 refine(step_store H.out _ id hi).mono ?_;rintro e w1 ⟨rfl,hr1,hk1⟩;have H1:=hid hr1;have HK1:=hid hk1;clear hr1 hk1
 go_wp2_with fail
 refine(step_store H1.out _ ln hl).mono ?_;rintro e w2 ⟨rfl,hr2,hk2⟩;have H2:=hid hr2;have HK2:=hid (HK1.out.trans hk2);clear hr2 hk2
 go_wp2_with fail
 refine(step_store H2.out _ born hn).mono ?_;rintro e w3 ⟨rfl,hr3,hk3⟩;have H3:=hid hr3;have HK3:=hid (HK2.out.trans hk3);clear hr3 hk3
 go_wp2_with fail
 go_end0
 refine hR'.out _ _ ⟨rfl,?_,HK3.out⟩
 first|exact H3.out|(show RM w3 K r m c (((s.store (b+4*d+1) id).store (b+4*d+2) ln).store (b+4*d+0) born);rw[Int.add_zero];exact H3.out)
set_option maxHeartbeats 400000 in
theorem table_kill {w:World}{K:Nat→Prop}{r m c:Nat}{s:St}(h:RM w K r m c s)(b d v:Int)(hb:Small b)(hd:Small d)(hv:U32 v):
  Z 48 #[.pointer (some ⟨r,0,none⟩),I b,I d,J v] w fun e w'=>
   e= .returned (.tuple #[])∧RM w' K r m c ((killT b d v).exec s).2∧Keeps K w w':=by
 obtain⟨b0,b1⟩:=hb;obtain⟨d0,d1⟩:=hd;have H:=hid h;clear h;refine calls_hide fun R' hR'=>?_
 go_enter Tryz.func48,Tryz.ntmps48
 go_wp2_with fail
 refine(step_store H.out _ v hv).mono ?_;rintro e w1 ⟨rfl,hr1,hk1⟩;have H1:=hid hr1;have HK1:=hid hk1;clear hr1 hk1
 go_wp2_with fail
 go_end0
 exact hR'.out _ _ ⟨rfl,H1.out,HK1.out⟩
theorem findT_step (b id:Int)(n d:Nat)(s:St):(findT b id (n+1) d).exec s=
  (if(s.load (b+4*d+1)).2.isOff=true then Tree.ret (-1)else if(s.load (b+4*d+1)).1=id then .ret (d:Int)else findT b id n (d+1)).exec (s.load (b+4*d+1)).2:=rfl
set_option maxHeartbeats 1000000 in
theorem table_find {w:World}{K:Nat→Prop}{r m c:Nat}{s:St}(h:RM w K r m c s)(b id:Int)(n:Nat)(hb:Small b)(hn:n≤1099511627776)(hi:U32 id):
  Z 69 #[.pointer (some ⟨r,0,none⟩),I b,I n,J id] w fun e w'=>
   e= .returned (I ((findT b id n 0).exec s).1)∧RM w' K r m c ((findT b id n 0).exec s).2∧Keeps K w w':=by
 obtain⟨b0,b1⟩:=hb;obtain⟨i0,i1⟩:=hi;have H:=hid h;clear h;generalize hres:(findT b id n 0).exec s=res;have HRes:=hid hres;clear hres;refine calls_hide fun R' hR'=>?_
 go_enter Tryz.func69,Tryz.ntmps69
 go_wp2_with fail
 go_loopw[12] (fun i wr=>∃(k:Nat) (s':St),i=I k∧k≤n∧RM wr K r m c s'∧Keeps K w wr∧(findT b id (n-k) k).exec s'=res) (fun i _=>n-(intOf i).toNat)
 case atStart=>exact⟨0,s,rfl,Nat.zero_le _,H.out,Keeps.refl _ _,HRes.out⟩
 case round=>
  obtain⟨k,s',rfl,hk,hR,hK,hex⟩:=hrel;have HR:=hid hR;have HK:=hid hK;clear hR hK
  by_cases hlt:k<n
  ·have e:n-k=(n-(k+1))+1:=by omega
   rw[e,findT_step]at hex;have HEX:=hid hex;clear hex e
   go_wp2_with fail
   refine(step_load HR.out _).mono ?_;rintro e w1 ⟨rfl,hr1,hk1⟩;have HU:=hid (HR.out.load_u32 (b+4*(k:Int)+1));have HE2:=HEX.out;generalize s'.load (b+4*(k:Int)+1)=ls at*;obtain⟨x,s1⟩:=ls;simp only at hr1 HU HE2;have HR1:=hid hr1;have HK1:=hid (HK.out.trans hk1);have HX:=hid HE2;clear hr1 hk1 HE2
   go_wp2_with fail
   refine(step_off HR1.out).mono ?_;rintro e w2 ⟨rfl,rfl⟩;have hx:=HX.out
   cases ho:s1.isOff
   ·rw[ho,if_neg (by decide)]at hx
    by_cases hxi:x=id
    ·rw[if_pos hxi]at hx;have HY:=hid hx;clear hx;subst hxi
     go_wp2_with fail
     exact hR'.out _ _ ⟨by rw[←HY.out];rfl,by rw[←HY.out];exact HR1.out,HK1.out⟩
    ·rw[if_neg hxi]at hx;have HY:=hid hx;have hb:(x==id)=false:=by simpa using hxi
     clear hx hxi
     go_wp2_with fail
     go_roundw
     case rel=>exact⟨k+1,s1,by go_num,by omega,HR1.out,HK1.out,HY.out⟩
     case measure=>simp[intOf];omega
   ·rw[ho,if_pos rfl]at hx;have HY:=hid hx;clear hx
    go_wp2_with fail
    exact hR'.out _ _ ⟨by rw[←HY.out];rfl,by rw[←HY.out];exact HR1.out,HK1.out⟩
  ·have hkn:n-k=0:=by omega
   rw[hkn]at hex;have HY:=hid hex;clear hex hkn
   go_wp2_with fail
   exact hR'.out _ _ ⟨by rw[←HY.out];rfl,by rw[←HY.out];exact HR.out,HK.out⟩
end Go.Proofs.YtogdknnkhkjmcaaGreatDoor
namespace Go.Proofs.YtogdknnkhkjmcaaGreatDoor
set_option linter.all false
section
variable {P:Program}{S Su:World→Prop}{md:Region.Mode}{Q:Exit→Act→World→Prop}
def headC (md:Region.Mode)(l:List Oper)(n:Nat)(pre:List Nat):Bool:=
 decide (n<l.length)&&((List.range l.length).all fun t=>decide (t≤n)||(List.range l.length).any fun j=>decide (n≤j)&&Region.waitsFor md l.toArray t j)&&
 ((List.range n).all fun i=>pre.contains i||(List.range (n+1)).any fun j=>decide (i<j)&&Region.waitsFor md l.toArray j i)&&
 ((List.range n).all fun i=>match l[i]? with
  |some o=>(o.after.all fun e=> !Region.binds md e||decide (e.on<i))&&(match o.guard with|some (j,_)=>decide (j<n)|none=>true)
  |none=>true)
theorem waits_headC {l:List Oper}{n:Nat}{pre:List Nat}{listed:Array Bool}(hB:headC md l n pre=true)(inv:HeadInv md l.toArray n listed)(hpre:∀i∈pre,listed.getD i false=true):
  ∀(d i:Nat),n-i=d→i<n→listed.getD i true=false→∀t,n≤t→t∉Region.ready md l.toArray listed:=by
 simp only[headC,Bool.and_eq_true,decide_eq_true_eq]at hB;obtain⟨⟨⟨hn,hc⟩,hs⟩,_⟩:=hB;intro d
 induction d using Nat.strongRecOn with
 |_ d ih=>
  intro i hd hi hun t ht hr;obtain⟨_,ot,hot,hall⟩:=mem_ready.1 hr;have htlt:t<l.toArray.size:=(Array.getElem?_eq_some_iff.1 hot).1
  by_cases htn:t=n
  ·exact c41
  ·have h1:=List.all_eq_true.1 hc t (List.mem_range.2 (by simpa using htlt))
   simp only[Bool.or_eq_true,decide_eq_true_eq]at h1
   rcases h1 with h1|h1
   ·omega
   ·obtain⟨j,hj,hj2⟩:=List.any_eq_true.1 h1;simp only[Bool.and_eq_true,decide_eq_true_eq]at hj2;have hjl:=List.mem_range.1 hj;obtain⟨o',ho',e,he,hb,hon⟩:=Region.waitsFor_spec hj2.2;obtain rfl:o'=ot:=Option.some.inj (ho'.symm.trans hot);have h2:=hall e he hb;rw[hon,getD_both (inv.tail j hj2.1 (by simpa using hjl))]at h2
    cases h2
theorem headC_anyH {l:List Oper}{n:Nat}{pre:List Nat}(hB:headC md l n pre=true)(hSS:∀w,S w→Su w):
  ∀(f:Nat) (L listed:Array Bool) (a:Act) (w:World),HeadInv md l.toArray n listed→(∀i∈pre,listed.getD i false=true)→L.size=n→(∀i,i<n→listed.getD i true=L.getD i true)→
   wpAnyH P md (l.take n).toArray (Behind (wpAnyH P md l.toArray Q Su (l.length-n) (Array.replicate n true++Array.replicate (l.length-n) false)) Q) S f L a w→wpAnyH P md l.toArray Q Su (f+(l.length-n)) listed a w:=by
 have hB':=hB;simp only[headC,Bool.and_eq_true,decide_eq_true_eq]at hB;have zz20:=PLift.up @c207;exact c205
theorem wpAnyH_headC {l:List Oper}{a:Act}{w:World}{listed:Array Bool}(n f:Nat)(pre:List Nat)(L:Array Bool)(hB:headC md l n pre=true)(hP:preB md l n pre listed=true)(hL:(decide (L.size=n)&&(List.range n).all fun i=>listed.getD i true==L.getD i true)=true)(hSS:∀w,S w→Su w)
  (h:wpAnyH P md (l.take n).toArray (Behind (wpAnyH P md l.toArray Q Su (l.length-n) (Array.replicate n true++Array.replicate (l.length-n) false)) Q) S f L a w):wpAnyH P md l.toArray Q Su (f+(l.length-n)) listed a w:=by
 simp only[preB,Bool.and_eq_true,decide_eq_true_eq]at hP;obtain⟨⟨⟨p1,p2⟩,p3⟩,p4⟩:=hP;simp only[Bool.and_eq_true,decide_eq_true_eq]at hL;refine headC_anyH hB hSS f L listed a w ⟨by rw[p1];simp,fun j oj hj hl e he hb=>?_,fun t ht ht'=>?_⟩ (fun i hi=>List.all_eq_true.1 p4 i hi) hL.1 (fun i hi=>?_) h
 ·exact c95
 ·exact c129
 ·have h1:=List.all_eq_true.1 hL.2 i (List.mem_range.2 hi)
  simpa using h1
end
end Go.Proofs.YtogdknnkhkjmcaaGreatDoor
namespace Go.Proofs.YtogdknnkhkjmcaaGreatDoor
open Go.RowKit Go.ChangeShapes Go.WideShapes Go.Deep
set_option linter.all false
set_option maxRecDepth 100000
theorem Tryz.own:ownKnob Tryz.prog.godebug=none:=by kernel_rfl
theorem Tryz.laidOut:laidOutB Tryz.prog=true:=by kernel_rfl
section
variable {H:Type}{enc:TypeId×Value→H}{w:World}
end
theorem arg_kept {H:Type}{enc:TypeId×Value→H}{t:TypeId}(hr:Tryz.prog.readableRec t=true)(hrow:t<Tryz.prog.types.size){W W':World}{v:Value}{d:DataW H}{ps:List MemPlace}
  (h:DataW.Trod enc Tryz.prog W 0 (fun _=>true) true t v d ps) (hb:Keeps (· <W.heap.size) W W') (hlt:∀x∈ps,x.block<W.heap.size):
  DataW.Trod enc Tryz.prog W' 0 (fun b=>decide (b<W.heap.size)) true t v d ps:=Below.trod Tryz.laidOut hr hrow h hb.below hlt
end Go.Proofs.YtogdknnkhkjmcaaGreatDoor
