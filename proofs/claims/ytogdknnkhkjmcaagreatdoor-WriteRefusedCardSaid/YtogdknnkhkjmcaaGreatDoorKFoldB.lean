/- Lemmas on the programs that the statement reaches. -/
import Derived.Test.YtogdknnkhkjmcaaGreatDoorKStepF
namespace Go.Proofs.YtogdknnkhkjmcaaGreatDoor
open Go.RowKit
set_option linter.all false
section
variable {w w':World}{K K':Nat→Prop}{r m c:Nat}{s:St}
theorem RM.mono (h:RM w K r m c s)(hK:∀b,K' b→K b):RM w K' r m c s:=by
 obtain⟨g,h1,h2⟩:=h.run;exact⟨⟨g,h1,fun k hk=>⟨(h2 k hk).1,(h2 k hk).2.1,(h2 k hk).2.2.1,fun e=>(h2 k hk).2.2.2 (hK _ e)⟩⟩,h.mem,h.rm,h.rc,fun e=>h.kr (hK _ e),fun e=>h.km (hK _ e),fun e=>h.kc (hK _ e),fun b hb=>h.lt b (hK b hb)⟩
theorem RM.keep (h:RM w K r m c s)(L:Nat→Prop)(k:Keeps L w w')(hL:∀b,b<w.heap.size→¬K b→L b):RM w' K r m c s:=by
 obtain⟨g,h1,h2⟩:=h.run;have hr:=hL r h1.obj.lt h.kr;have hm:=hL m h.mem.obj.lt h.km;have hc:=hL c h.mem.cells.lt h.kc;exact⟨⟨g,h1.keep k hr (fun b hb=>hL b (own_ne h1.log b hb) (h2 b hb).2.2.2),h2⟩,h.mem.keep k hm hc,h.rm,h.rc,h.kr,h.km,h.kc,fun b hb=>by have:=h.lt b hb;have:=k.size;omega⟩
theorem RM.below (h:RM w K r m c s)(k:Keeps (· <w.heap.size) w w'):RM w' K r m c s:=h.keep _ k fun _ hb _=>hb
theorem RM.setK (h:RM w K r m c s){a:Addr}(ha:K a.block)(v:Value):RM (w.setCell a v) K r m c s:=
 h.keep (· ≠a.block) ((Keeps.refl _ _).setCell (by simp) _) fun _ _ hb e=>hb (e▸ha)
theorem RM.drew (h:RM w K r m c s):RM w.drew K r m c s:=h.keep (fun _=>True) ((Keeps.refl _ _).drew) fun _ _ _=>trivial
theorem RM.alloc (h:RM w K r m c s)(o:Obj):RM (w.alloc o) K r m c s:=h.below ((Keeps.refl _ _).alloc (fun _ hb=>hb) o)
theorem RM.lts (h:RM w K r m c s):r<w.heap.size∧m<w.heap.size∧c<w.heap.size:=by
 obtain⟨g,h1,_⟩:=h.run;exact⟨h1.obj.lt,h.mem.obj.lt,h.mem.cells.lt⟩
theorem RM.more (h:RM w K r m c s)(o:Obj):RM (w.alloc o) (fun b=>K b∨b=w.heap.size) r m c s:=by
 have hl:=h.lts;obtain⟨g,h1,h2⟩:=(h.alloc o).run;obtain⟨g0,h10,h20⟩:=h.run;have e:g=g0:=by
  have a:=h1.obj.inj (h10.obj.alloc o);simp only[List.cons.injEq]at a;exact a.2.1
 subst e;refine⟨⟨g,h1,fun k hk=>⟨(h2 k hk).1,(h2 k hk).2.1,(h2 k hk).2.2.1,?_⟩⟩,(h.alloc o).mem,h.rm,h.rc,?_,?_,?_,?_⟩
 ·rintro(e|e)
  ·exact(h2 k hk).2.2.2 e
  ·have:=own_ne h10.log k hk;omega
 ·rintro(e|e);exact h.kr e;omega
 ·rintro(e|e);exact h.km e;omega
 ·rintro(e|e);exact h.kc e;omega
 ·rintro b (e|e)
  ·have:=h.lt b e;simp;omega
  ·simp;omega
theorem RM.moreB (h:RM w K r m c s)(k:Keeps (· <w.heap.size) w w'):
  RM w' (fun b=>K b∨(w.heap.size≤b∧b<w'.heap.size)) r m c s:=by
 have hl:=h.lts;obtain⟨g,h1,h2⟩:=(h.below k).run;obtain⟨g0,h10,h20⟩:=h.run;have e:g=g0:=by
  have a:=h1.obj.inj (h10.obj.keep k hl.1);simp only[List.cons.injEq]at a;exact a.2.1
 subst e;have hs:=k.size;refine⟨⟨g,h1,fun x hk=>⟨(h2 x hk).1,(h2 x hk).2.1,(h2 x hk).2.2.1,?_⟩⟩,(h.below k).mem,h.rm,h.rc,?_,?_,?_,?_⟩
 ·rintro(e|e)
  ·exact(h2 x hk).2.2.2 e
  ·have:=own_ne h10.log x hk;omega
 ·rintro(e|e);exact h.kr e;omega
 ·rintro(e|e);exact h.km e;omega
 ·rintro(e|e);exact h.kc e;omega
 ·rintro b (e|e)
  ·have:=h.lt b e;omega
  ·omega
end
theorem RM.load_u32 {w:World}{K:Nat→Prop}{r m c:Nat}{s:St}(h:RM w K r m c s)(a:Int):U32 (s.load a).1:=by
 obtain⟨g,h1,_⟩:=h.run;unfold St.load
 split
 ·split
  ·rename_i hi
   have:0≤a∧a<s.m.cells.length:=by simpa[MemS.inb]using hi
   exact MemS.at_range h.mem this.1 this.2
  ·unfold U32;simp
 ·split
  ·show U32 (s.r.log.getD s.r.pos 0);rw[List.getD_eq_getElem?_getD]
   cases hg:s.r.log[s.r.pos]? with
   |none=>unfold U32;simp
   |some x=>exact h1.range _ (List.mem_of_getElem? hg)
  ·unfold U32;simp
namespace Tree
def norm {α:Type}:Tree α→Tree α
 |ret x=>ret x
 |load a k=>load a k
 |store a v k=>store a v k
 |off k=>(k false).norm
def peel {α:Type}:Tree α→List Int→Tree α
 |ret x,_=>ret x
 |load a k,[]=>load a k
 |load _ k,v::L=>(k v).peel L
 |store a v k,[]=>store a v k
 |store _ _ k,_::L=>k.peel L
 |off k,L=>(k false).peel L
def takes {α:Type}:Tree α→List Int→Prop
 |ret _,L=>L=[]
 |load _ _,[]=>True
 |load _ k,v::L=>(k v).takes L
 |store _ _ _,[]=>True
 |store _ _ k,_::L=>k.takes L
 |off k,L=>(k false).takes L
def isRet {α:Type}:Tree α→Bool
 |ret _=>true
 |_=>false
def go {α:Type}:Tree α→Int→Tree α
 |load _ k,v=>(k v).norm
 |store _ _ k,_=>k.norm
 |t,_=>t
def acts {α:Type}:Tree α→Bool
 |load _ _=>true
 |store _ _ _=>true
 |_=>false
theorem peel_nil {α:Type}(t:Tree α):t.peel []=t.norm:=by
 exact c101
theorem takes_nil {α:Type}(t:Tree α):t.takes []:=by
 induction t with
 |ret x=>exact rfl
 |load a k ih=>trivial
 |store a v k ih=>trivial
 |off k ih=>exact ih false
theorem norm_norm {α:Type}(t:Tree α):t.norm.norm=t.norm:=by
 exact c101
theorem peel_norm {α:Type}(t:Tree α):∀L,(t.peel L).norm=t.peel L:=by
 induction t with
 |ret x=>intro L;rfl
 |load a k ih=>intro L;cases L with|nil=>rfl|cons v L=>exact ih v L
 |store a v k ih=>intro L;cases L with|nil=>rfl|cons v L=>exact ih L
 |off k ih=>intro L;exact ih false L
theorem peel_snoc {α:Type}(t:Tree α):∀L v,(t.peel L).acts=true→t.takes L→t.peel (L++[v])=(t.peel L).go v∧t.takes (L++[v]):=by
 induction t with
 |ret x=>intro L v h;cases L<;>cases h
 |load a k ih=>
  intro L v h ht
  cases L with
  |nil=>exact⟨peel_nil _,takes_nil _⟩
  |cons u L=>exact ih u L v h ht
 |store a x k ih=>
  intro L v h ht
  cases L with
  |nil=>exact⟨peel_nil _,takes_nil _⟩
  |cons u L=>exact ih L v h ht
 |off k ih=>intro L v h ht;exact ih false L v h ht
theorem norm_cases {α:Type}(t:Tree α)(h:t.norm=t):(∃x,t=ret x)∨(∃a k,t=load a k)∨(∃a v k,t=store a v k):=by
 cases t with
 |ret x=>exact Or.inl ⟨x,rfl⟩
 |load a k=>exact Or.inr (Or.inl ⟨a,k,rfl⟩)
 |store a v k=>exact Or.inr (Or.inr ⟨a,v,k,rfl⟩)
 |off k=>
  exfalso
  have:∀(t u:Tree α),t.norm=u→∀k,u≠off k:=by
   intro t
   induction t with
   |ret x=>rintro u rfl k h;cases h
   |load a k ih=>rintro u rfl k h;cases h
   |store a v k ih=>rintro u rfl k h;cases h
   |off k ih=>rintro u h;exact ih false u h
  exact this _ _ h k rfl
end Tree
theorem exec_off {α:Type}(t:Tree α):∀s:St,s.r.off=true→(t.exec s).2=s:=by
 induction t with
 |ret x=>intro s _;rfl
 |load a k ih=>
  intro s h;have e:s.load a=(0,s):=by simp[St.load,RunS.turnK,RunS.turn,h]
  show((k (s.load a).1).exec (s.load a).2).2=s;rw[e];exact ih _ _ h
 |store a v k ih=>
  intro s h;have e:s.store a v=s:=by simp[St.store,RunS.turnK,RunS.turn,h]
  show(k.exec (s.store a v)).2=s;rw[e];exact ih _ h
 |off k ih=>intro s h;exact ih _ _ h
theorem exec_rest {α:Type}(t:Tree α):∀s:St,s.r.inn=true→s.r.off=false→s.r.pos=s.r.log.length→s.r.may=false→
  (∀x,t.norm= .ret x→t.exec s=(x,s))∧(t.norm.isRet=false→(t.exec s).2=⟨{ s.r with off:=true },s.m⟩):=by
 induction t with
 |ret x=>intro s _ _ _ _;exact⟨fun y h=>(by cases h;rfl),fun h=>(by cases h)⟩
 |load a k ih=>
  intro s h1 h2 h3 h4;refine⟨fun y h=>(by cases h),fun _=>?_⟩
  have e:s.load a=(0,⟨{ s.r with off:=true },s.m⟩):=by simp[St.load,RunS.turnK,RunS.turn,h1,h2,h3,h4]
  show((k (s.load a).1).exec (s.load a).2).2=_;rw[e];exact exec_off _ _ rfl
 |store a v k ih=>
  intro s h1 h2 h3 h4;refine⟨fun y h=>(by cases h),fun _=>?_⟩
  have e:s.store a v=⟨{ s.r with off:=true },s.m⟩:=by simp[St.store,RunS.turnK,RunS.turn,h1,h2,h3,h4]
  show(k.exec (s.store a v)).2=_;rw[e];exact exec_off _ _ rfl
 |off k ih=>
  intro s h1 h2 h3 h4;have e:s.isOff=false:=by simp[St.isOff,h1,h2]
  have:=ih false s h1 h2 h3 h4;show(∀x,(k false).norm= .ret x→(k s.isOff).exec s=(x,s))∧((k false).norm.isRet=false→((k s.isOff).exec s).2=_);rw[e];exact this
theorem exec_peel {α:Type}(t:Tree α):∀(L:List Int) (s:St),s.r.inn=true→s.r.off=false→s.r.pos≤s.r.log.length→s.r.log.drop s.r.pos=L→t.takes L→
  t.exec s=(t.peel L).exec ⟨{ s.r with pos:=s.r.log.length },s.m⟩:=by
 induction t with
 |ret x=>
  intro L s h1 h2 h3 h4 h5;have:L=[]:=h5;subst this;have hp:s.r.pos=s.r.log.length:=by
   exact c132
  show(x,s)=(x,_);rw[←hp]
 |load a k ih=>
  intro L s h1 h2 h3 h4 h5
  cases L with
  |nil=>
   have hp:s.r.pos=s.r.log.length:=by
    exact c132
   show(Tree.load a k).exec s=(Tree.load a k).exec _;rw[←hp]
  |cons v L=>
   have hlt:s.r.pos<s.r.log.length:=by
    exact c132
   have hv:s.r.log.getD s.r.pos 0=v:=by
    have:=congrArg (·[0]?) h4
    simp at this
    rw[List.getD_eq_getElem?_getD,this];rfl
   have hd:s.r.log.drop (s.r.pos+1)=L:=by
    have:=congrArg List.tail h4
    simpa using this
   have e:s.load a=(v,⟨{ s.r with pos:=s.r.pos+1 },s.m⟩):=by simp[St.load,RunS.turnK,RunS.turn,h1,h2,hlt,←hv]
   show(k (s.load a).1).exec (s.load a).2=_;rw[e];exact ih v L ⟨{ s.r with pos:=s.r.pos+1 },s.m⟩ h1 h2 hlt hd h5
 |store a x k ih=>
  intro L s h1 h2 h3 h4 h5
  cases L with
  |nil=>
   have hp:s.r.pos=s.r.log.length:=by
    exact c132
   show(Tree.store a x k).exec s=(Tree.store a x k).exec _;rw[←hp]
  |cons v L=>
   have hlt:s.r.pos<s.r.log.length:=by
    exact c132
   have hd:s.r.log.drop (s.r.pos+1)=L:=by
    have:=congrArg List.tail h4
    simpa using this
   have e:s.store a x=⟨{ s.r with pos:=s.r.pos+1 },s.m⟩:=by simp[St.store,RunS.turnK,RunS.turn,h1,h2,hlt]
   show k.exec (s.store a x)=_;rw[e];exact ih L ⟨{ s.r with pos:=s.r.pos+1 },s.m⟩ h1 h2 hlt hd h5
 |off k ih=>
  intro L s h1 h2 h3 h4 h5;have e:s.isOff=false:=by simp[St.isOff,h1,h2]
  show(k s.isOff).exec s=_;rw[e];exact ih false L s h1 h2 h3 h4 h5
structure Way {α:Type}(t:Tree α)(s:St)(rest:Tree α):Prop where
 takes:t.takes s.r.log
 rest:t.peel s.r.log=rest
 err:s.r.err=0
 over:s.r.over=false
theorem way_end {α:Type}{t:Tree α}{s:St}{x:α}(h:Way t s (.ret x)):
  s.step t=(x,⟨⟨s.r.log,s.r.log.length,false,true,false,true,0⟩,s.m⟩):=by
 have e:=exec_peel t s.r.log ⟨s.r.begin,s.m⟩ rfl rfl (Nat.zero_le _) rfl h.takes;rw[h.rest]at e;unfold St.step;rw[e]
 simp[Tree.exec,RunS.finish,RunS.begin,h.err]
theorem way_load {α:Type}{t:Tree α}{s:St}{a:Int}{k:Int→Tree α}(h:Way t s (.load a k))(hi:s.m.inb a=true):
  (s.step t).2=⟨⟨s.r.log++[s.m.at a],s.r.log.length+1,false,false,!(k (s.m.at a)).norm.isRet,(k (s.m.at a)).norm.isRet,0⟩,s.m.load a⟩∧
  (∀x,(k (s.m.at a)).norm= .ret x→(s.step t).1=x):=by
 have e:=exec_peel t s.r.log ⟨s.r.begin,s.m⟩ rfl rfl (Nat.zero_le _) rfl h.takes;rw[h.rest]at e;have el:(⟨{ s.r.begin with pos:=s.r.begin.log.length },s.m⟩:St).load a=(s.m.at a,⟨⟨s.r.log++[s.m.at a],s.r.log.length+1,true,false,false,s.r.over,0⟩,s.m.load a⟩):=by
  simp[St.load,RunS.turnK,RunS.turn,RunS.begin,RunS.made,hi,h.err]
 have e2:t.exec ⟨s.r.begin,s.m⟩=(k (s.m.at a)).exec ⟨⟨s.r.log++[s.m.at a],s.r.log.length+1,true,false,false,s.r.over,0⟩,s.m.load a⟩:=by
  rw[e];show(k (St.load _ a).1).exec (St.load _ a).2=_;rw[el]
 have hr:=exec_rest (k (s.m.at a)) ⟨⟨s.r.log++[s.m.at a],s.r.log.length+1,true,false,false,s.r.over,0⟩,s.m.load a⟩ rfl rfl (by simp) rfl
 unfold St.step;rw[e2]
 cases hn:(k (s.m.at a)).norm.isRet
 ·have:=hr.2 hn;rw[this];refine⟨by simp[RunS.finish],fun x hx=>?_⟩
  rw[hx]at hn;cases hn
 ·have:∃x,(k (s.m.at a)).norm= .ret x:=by
   cases h:(k (s.m.at a)).norm<;>rw[h]at hn<;>first|exact⟨_,rfl⟩|cases hn
  obtain⟨x,hx⟩:=this;have:=hr.1 x hx;rw[this];refine⟨by simp[RunS.finish],fun y hy=>?_⟩
  rw[hx]at hy;injection hy
theorem way_store {α:Type}{t:Tree α}{s:St}{a v:Int}{k:Tree α}(h:Way t s (.store a v k))(hi:s.m.inb a=true):
  (s.step t).2=⟨⟨s.r.log++[0],s.r.log.length+1,false,false,!k.norm.isRet,k.norm.isRet,0⟩,s.m.store a v⟩∧(∀x,k.norm= .ret x→(s.step t).1=x):=by
 have e:=exec_peel t s.r.log ⟨s.r.begin,s.m⟩ rfl rfl (Nat.zero_le _) rfl h.takes;rw[h.rest]at e;have el:(⟨{ s.r.begin with pos:=s.r.begin.log.length },s.m⟩:St).store a v=⟨⟨s.r.log++[0],s.r.log.length+1,true,false,false,s.r.over,0⟩,s.m.store a v⟩:=by
  simp[St.store,RunS.turnK,RunS.turn,RunS.begin,RunS.made,hi,h.err]
 have e2:t.exec ⟨s.r.begin,s.m⟩=k.exec ⟨⟨s.r.log++[0],s.r.log.length+1,true,false,false,s.r.over,0⟩,s.m.store a v⟩:=by
  rw[e];show k.exec (St.store _ a v)=_;rw[el]
 have hr:=exec_rest k ⟨⟨s.r.log++[0],s.r.log.length+1,true,false,false,s.r.over,0⟩,s.m.store a v⟩ rfl rfl (by simp) rfl
 unfold St.step;rw[e2]
 cases hn:k.norm.isRet
 ·have:=hr.2 hn;rw[this];refine⟨by simp[RunS.finish],fun x hx=>?_⟩
  rw[hx]at hn;cases hn
 ·have:∃x,k.norm= .ret x:=by
   cases h:k.norm<;>rw[h]at hn<;>first|exact⟨_,rfl⟩|cases hn
  obtain⟨x,hx⟩:=this;have:=hr.1 x hx;rw[this];refine⟨by simp[RunS.finish],fun y hy=>?_⟩
  rw[hx]at hy;injection hy
theorem way_start {α:Type}(t:Tree α)(μ:MemS)(b1 b2 b3:Bool)(p:Nat):Way t ⟨⟨[],p,b1,b2,b3,false,0⟩,μ⟩ t.norm:=
 ⟨t.takes_nil,t.peel_nil,rfl,rfl⟩
theorem way_next_load {α:Type}{t:Tree α}{s:St}{a:Int}{k:Int→Tree α}(h:Way t s (.load a k))(hi:s.m.inb a=true)(hn:(k (s.m.at a)).norm.isRet=false):
  Way t (s.step t).2 (k (s.m.at a)).norm:=by
 have hs:=(way_load h hi).1;have hp:=t.peel_snoc s.r.log (s.m.at a) (by rw[h.rest];rfl) h.takes
 rw[hs];exact⟨hp.2,by rw[hp.1,h.rest];rfl,rfl,hn⟩
theorem way_next_store {α:Type}{t:Tree α}{s:St}{a v:Int}{k:Tree α}(h:Way t s (.store a v k))(hi:s.m.inb a=true)(hn:k.norm.isRet=false):
  Way t (s.step t).2 k.norm:=by
 have hs:=(way_store h hi).1;have hp:=t.peel_snoc s.r.log 0 (by rw[h.rest];rfl) h.takes
 rw[hs];exact⟨hp.2,by rw[hp.1,h.rest];rfl,rfl,hn⟩
namespace Tree
def ideal {α:Type}:Tree α→List Int→Option (α×List Int×Nat)
 |ret x,cs=>some (x,cs,0)
 |load a k,cs=>if 0≤a∧a<cs.length then((k (cs.getD a.toNat 0)).ideal cs).map fun y=>(y.1,y.2.1,y.2.2+1)else none
 |store a v k,cs=>if 0≤a∧a<cs.length then(k.ideal (cs.set a.toNat v)).map fun y=>(y.1,y.2.1,y.2.2+1)else none
 |off k,cs=>(k false).ideal cs
theorem ideal_norm {α:Type}(t:Tree α)(cs:List Int):t.norm.ideal cs=t.ideal cs:=by
 exact c101
theorem ideal_ret {α:Type}{t:Tree α}{cs cs':List Int}{x:α}{n:Nat}(h:t.ideal cs=some (x,cs',n))(hr:t.norm.isRet=true):t.norm= .ret x∧cs'=cs∧n=0:=by
 rw[←ideal_norm]at h
 cases ht:t.norm with
 |ret y=>rw[ht]at h;injection h with h;injection h with h1 h2;injection h2 with h2 h3;subst h1;exact⟨rfl,h2.symm,h3.symm⟩
 |load a k=>rw[ht]at hr;cases hr
 |store a v k=>rw[ht]at hr;cases hr
 |off k=>rw[ht]at hr;cases hr
theorem ideal_bind {α β:Type}(t:Tree α)(f:α→Tree β):∀cs,(t.bind f).ideal cs=(t.ideal cs).bind fun y=>((f y.1).ideal y.2.1).map fun z=>(z.1,z.2.1,z.2.2+y.2.2):=by
 induction t with
 |ret x=>
  intro cs;show(f x).ideal cs=((f x).ideal cs).map _
  cases(f x).ideal cs<;>rfl
 |load a k ih=>
  intro cs;show(if 0≤a∧a<cs.length then _ else _)=Option.bind (if 0≤a∧a<cs.length then _ else _) _
  split
  ·show(((k _).bind f).ideal cs).map _=_;rw[ih]
   cases(k (cs.getD a.toNat 0)).ideal cs with
   |none=>rfl
   |some y=>
    show(((f y.1).ideal y.2.1).map _).map _=((f y.1).ideal y.2.1).map _
    cases(f y.1).ideal y.2.1<;>simp<;>omega
  ·rfl
 |store a v k ih=>
  intro cs;show(if 0≤a∧a<cs.length then _ else _)=Option.bind (if 0≤a∧a<cs.length then _ else _) _
  split
  ·show((k.bind f).ideal _).map _=_;rw[ih]
   cases k.ideal (cs.set a.toNat v)with
   |none=>rfl
   |some y=>
    show(((f y.1).ideal y.2.1).map _).map _=((f y.1).ideal y.2.1).map _
    cases(f y.1).ideal y.2.1<;>simp<;>omega
  ·rfl
 |off k ih=>intro cs;exact ih false cs
end Tree
theorem inb_iff (μ:MemS)(a:Int):μ.inb a=true↔0≤a∧a<μ.cells.length:=by simp[MemS.inb]
def lettersP:List (Int×Int):=[(0x41,0x5A),(0x61,0x7A),(0xC0,0xD6),(0xD8,0xF6),(0xF8,0x24F),(0x386,0x386),(0x388,0x38A),(0x38C,0x38C),(0x38E,0x3A1),(0x3A3,0x3CE),(0x400,0x481),(0x48A,0x52F),(0x5D0,0x5EA)]
def highP:List (Int×Int):=[(0x4E00,0x9FFF),(0xAC00,0xD7A3)]
def spanC (l:List (Int×Int)):List Value:=l.flatMap fun p=>[.int .i32 p.1,.int .i32 p.2]
def classL (r:Int):List (Int×Int)→Int
 | []=>0
 |p::l=>if r<p.1 then 0 else if r≤p.2 then 1 else classL r l
def classM (r:Int):Int:=
 if(48≤r∧r≤57)∨(1632≤r∧r≤1641)then 2 else if(19968≤r∧r≤40959)∨(44032≤r∧r≤55203)then 1 else classL r lettersP
def movesP:List (Int×Int×Int×Int):=[(0x41,0x5A,1,32),(0xC0,0xD6,1,32),(0xD8,0xDE,1,32),(0x100,0x137,2,1),(0x139,0x148,3,1),(0x14A,0x177,2,1),
 (0x178,0x178,1,-121),(0x179,0x17E,3,1),(0x17F,0x17F,1,-268),(0x386,0x386,1,0x26),(0x388,0x38A,1,0x25),(0x38C,0x38C,1,0x40),
 (0x38E,0x38F,1,0x3F),(0x391,0x3A1,1,32),(0x3A3,0x3AB,1,32),(0x3C2,0x3C2,1,1),(0x400,0x40F,1,80),(0x410,0x42F,1,32),
 (0x460,0x481,2,1),(0x48A,0x4BF,2,1),(0x4D0,0x52F,2,1),(0x660,0x669,1,-0x630),(0,0,0,0),(0,0,0,0)]
def moveC (l:List (Int×Int×Int×Int)):List Value:=l.flatMap fun p=>[.int .i32 p.1,.int .i32 p.2.1,.int .i64 p.2.2.1,.int .i32 p.2.2.2]
structure FoldTab (w:World):Prop where
 high:w.rangeAt 1 0 (spanC highP)
 letters:w.rangeAt 2 0 (spanC lettersP)
 moves:w.rangeAt 3 0 (moveC movesP)
 lt:1<w.heap.size∧2<w.heap.size∧3<w.heap.size
theorem FoldTab.keep {w w':World}(h:FoldTab w)(k:Keeps (· <w.heap.size) w w'):FoldTab w':=by
 have go:∀b cs,b<w.heap.size→w.rangeAt b 0 cs→w'.rangeAt b 0 cs:=fun b cs hb hr j v hv=>(World.cell?_of_block (a:=⟨b,0+j,none⟩) (k.block b hb)).trans (hr j v hv);have:=k.size;exact⟨go _ _ h.lt.1 h.high,go _ _ h.lt.2.1 h.letters,go _ _ h.lt.2.2 h.moves,by have:=h.lt;omega⟩
theorem letters_index (i:Nat)(hi:i<13)(w:World):∃lo hi,lettersP[i]? =some (lo,hi)∧(Instr.index 195 (.agg (spanC lettersP).toArray) (I (i:Int))).run Tryz.prog w= .ok (.agg #[.int .i32 lo,.int .i32 hi]) w:=by
 rcases(by omega:i=0∨i=1∨i=2∨i=3∨i=4∨i=5∨i=6∨i=7∨i=8∨i=9∨i=10∨i=11∨i=12)with rfl|rfl|rfl|rfl|rfl|rfl|rfl|rfl|rfl|rfl|rfl|rfl|rfl
 all_goals exact⟨_,_,rfl,by kernel_rfl⟩
set_option maxRecDepth 100000 in
set_option maxHeartbeats 2000000 in
theorem fold_class (r:Int)(hr: -2147483648≤r∧r≤2147483647)(w:World)(hT:FoldTab w):Z 97 #[.int .i32 r] w fun e w'=>e= .returned (I (classM r))∧Keeps (· <w.heap.size) w w':=by
 have HT:=hid hT;have h0:=hT.high 0 _ rfl;have h1:=hT.high 1 _ rfl;have h2:=hT.high 2 _ rfl;have h3:=hT.high 3 _ rfl;simp only[Nat.zero_add]at h0 h1 h2 h3;clear hT;refine calls_hide fun R' hR'=>?_
 go_enter Tryz.func97,Tryz.ntmps97
 by_cases a1:48≤r∧r≤57
 ·obtain⟨b1,b2⟩:=a1;have hm:classM r=2:=by unfold classM;rw[if_pos (Or.inl ⟨b1,b2⟩)]
  exact c104
 by_cases a2:1632≤r∧r≤1641
 ·obtain⟨b1,b2⟩:=a2;have hm:classM r=2:=by unfold classM;rw[if_pos (Or.inr ⟨b1,b2⟩)]
  exact c104
 by_cases a3:19968≤r∧r≤40959
 ·obtain⟨b1,b2⟩:=a3;have hm:classM r=1:=by unfold classM;rw[if_neg (by omega),if_pos (Or.inl ⟨b1,b2⟩)]
  exact c104
 by_cases a4:44032≤r∧r≤55203
 ·obtain⟨b1,b2⟩:=a4;have hm:classM r=1:=by unfold classM;rw[if_neg (by omega),if_pos (Or.inr ⟨b1,b2⟩)]
  exact c104
 have hm:classM r=classL r lettersP:=by unfold classM;rw[if_neg (by omega),if_neg (by omega)]
 have n1:¬(48≤r∧r≤57):=a1;have HM:=hid hm;clear hm;obtain⟨LA,hLA⟩:∃LA,LA=(spanC lettersP).toArray:=⟨_,rfl⟩
 rcases(by omega:r<48∨(57<r∧r<1632)∨(1641<r∧r<19968)∨(40959<r∧r<44032)∨55203<r)with c1|⟨c1,c2⟩|⟨c1,c2⟩|⟨c1,c2⟩|c1
 all_goals
  clear a1 a2 a3 a4 n1
  go_wp2_with fail
  go_step3
  go_wp2_with fail
  go_step3
  go_wp2_with (with_reducible refine wpList_load_mid rfl 195 (.global 2) rfl 2 0 rfl (spanC lettersP) _ HT.out.letters Tryz.underlying195 rfl (by kernel_rfl) ?_)
  rw[←hLA];have HLA:=hid hLA;clear hLA
  go_wp2_with fail
  go_loopw[3,45] (fun cv iv wr=>∃i:Nat,cv=I 0∧iv=I (i:Int)∧i≤13∧Hid (classL r (lettersP.drop i)=classM r)∧Hid (Keeps (· <w.heap.size) w wr)) (fun _ iv _=>13-(intOf iv).toNat)
  case atStart=>exact⟨0,rfl,rfl,by decide,hid HM.out.symm,hid (Keeps.refl _ _)⟩
  case round=>
   obtain⟨i,rfl,rfl,hi,HC,HK⟩:=hrel
   by_cases hlt:i<13
   ·have hltI:(i:Int)<13:=by omega
    obtain⟨lo,hi9,hg,-⟩:=letters_index i hlt w;have hix:∀w,(Instr.index 195 (.agg LA) (I (i:Int))).run Tryz.prog w= .ok (.agg #[.int .i32 lo,.int .i32 hi9]) w:=by
     intro w;obtain⟨lo',hi',hg',h⟩:=letters_index i hlt w;rw[hg]at hg';injection hg' with hg'
     injection hg' with e1 e2
     rw[HLA.out,e1,e2];exact h
    have hcl:=HC.out;have hd:lettersP.drop i=(lo,hi9)::lettersP.drop (i+1):=by
     obtain⟨h9,h8⟩:=List.getElem?_eq_some_iff.1 hg;rw[List.drop_eq_getElem_cons h9,h8]
    rw[hd]at hcl;unfold classL at hcl;dsimp only at hcl;have hbs:=HK.out.size;have hk2:=HK.out.alloc (fun b hb=>Nat.lt_of_lt_of_le hb hbs) (.cells #[.int .i32 lo,.int .i32 hi9] 193);clear HC hd hg
    by_cases q1:r<lo
    ·rw[if_pos q1]at hcl;exact c36
    ·by_cases q2:r≤hi9
     ·rw[if_neg q1,if_pos q2]at hcl;exact c36
     ·rw[if_neg q1,if_neg q2]at hcl;exact c116
   ·obtain rfl:i=13:=by omega
    have hcl:=HC.out;have hcl:0=classM r:=hcl;have Hcl:=hid hcl;clear hcl
    go_wp2_with fail
    exact hR'.out _ _ ⟨by rw[←Hcl.out];first|rfl|skip,HK.out⟩
def foldL (r:Int):List (Int×Int×Int×Int)→Int
 | []=>r
 |p::l=>if p.2.2.1=0∨r<p.1 then r else if r>p.2.1 then foldL r l else if p.2.2.1=1∨(p.2.2.1=2∧r%2=0)∨(p.2.2.1=3∧r%2=1)then r+p.2.2.2 else r
def foldM (r:Int):Int:=foldL r movesP
theorem moves_index (i:Nat)(hi:i<24)(w:World):∃lo hi ev by',movesP[i]? =some (lo,hi,ev,by')∧(0≤lo∧hi≤1641∧-2000≤by'∧by'≤200)∧(Instr.index 198 (.agg (moveC movesP).toArray) (I (i:Int))).run Tryz.prog w= .ok (.agg #[.int .i32 lo,.int .i32 hi,I ev,.int .i32 by']) w:=by
 rcases(by omega:i=0∨i=1∨i=2∨i=3∨i=4∨i=5∨i=6∨i=7∨i=8∨i=9∨i=10∨i=11∨i=12∨i=13∨i=14∨i=15∨i=16∨i=17∨i=18∨i=19∨i=20∨i=21∨i=22∨i=23)with rfl|rfl|rfl|rfl|rfl|rfl|rfl|rfl|rfl|rfl|rfl|rfl|rfl|rfl|rfl|rfl|rfl|rfl|rfl|rfl|rfl|rfl|rfl|rfl
 all_goals exact⟨_,_,_,_,rfl,by decide,by kernel_rfl⟩
set_option maxRecDepth 100000 in
set_option maxHeartbeats 4000000 in
theorem fold_fold (r:Int)(hr: -2147483648≤r∧r≤2147483647)(w:World)(hT:FoldTab w):Z 98 #[.int .i32 r] w fun e w'=>e= .returned (.int .i32 (foldM r))∧Keeps (· <w.heap.size) w w':=by
 have HT:=hid hT;clear hT;obtain⟨LA,hLA⟩:∃LA,LA=(moveC movesP).toArray:=⟨_,rfl⟩;refine calls_hide fun R' hR'=>?_
 go_enter Tryz.func98,Tryz.ntmps98
 go_wp2_with fail
 go_step3
 go_wp2_with fail
 go_step3
 go_wp2_with (with_reducible refine wpList_load_mid rfl 198 (.global 3) rfl 3 0 rfl (moveC movesP) _ HT.out.moves Tryz.underlying198 rfl (by kernel_rfl) ?_)
 rw[←hLA];have HLA:=hid hLA;clear hLA
 go_wp2_with fail
 go_loopw[3,8] (fun ov iv wr=>∃i:Nat,ov= .int .i32 r∧iv=I (i:Int)∧i≤24∧Hid (foldL r (movesP.drop i)=foldM r)∧Hid (Keeps (· <w.heap.size) w wr)) (fun _ iv _=>24-(intOf iv).toNat)
 case atStart=>exact⟨0,rfl,rfl,by decide,hid rfl,hid (Keeps.refl _ _)⟩
 case round=>
  obtain⟨i,rfl,rfl,hi,HC,HK⟩:=hrel
  by_cases hlt:i<24
  ·have hltI:(i:Int)<24:=by omega
   obtain⟨lo,hi9,ev,bb,hg,⟨g0,g1,g2,g3⟩,-⟩:=moves_index i hlt w;have hix:∀w,(Instr.index 198 (.agg LA) (I (i:Int))).run Tryz.prog w= .ok (.agg #[.int .i32 lo,.int .i32 hi9,I ev,.int .i32 bb]) w:=by
    intro w;obtain⟨lo',hi',ev',by',hg',_,h⟩:=moves_index i hlt w
    rw[hg]at hg';injection hg' with hg'
    injection hg' with e1 e2
    injection e2 with e2 e3
    injection e3 with e3 e4
    rw[HLA.out,e1,e2,e3,e4];exact h
   have hcl:=HC.out;have hd:movesP.drop i=(lo,hi9,ev,bb)::movesP.drop (i+1):=by
    obtain⟨h9,h8⟩:=List.getElem?_eq_some_iff.1 hg;rw[List.drop_eq_getElem_cons h9,h8]
   rw[hd]at hcl;unfold foldL at hcl;dsimp only at hcl;have hbs:=HK.out.size;have hk2:=HK.out.alloc (fun b hb=>Nat.lt_of_lt_of_le hb hbs) (.cells #[.int .i32 lo,.int .i32 hi9,I ev,.int .i32 bb] 197);clear HC hd hg
   by_cases q0:ev=0
   ·rw[if_pos (Or.inl q0)]at hcl;have b0:(ev==0)=true:=by simp[q0]
    have Q0:=hid q0;clear q0;exact c36
   have b0:(ev==0)=false:=by simpa using q0
   by_cases q1:r<lo
   ·rw[if_pos (Or.inr q1)]at hcl;exact c36
   rw[if_neg (by rintro(h|h);exact q0 h;exact q1 h)]at hcl
   by_cases q2:r>hi9
   ·rw[if_pos q2]at hcl;exact c116
   rw[if_neg q2]at hcl
   by_cases q3:ev=1
   ·rw[if_pos (Or.inl q3)]at hcl;have b1:(ev==1)=true:=by simp[q3]
    have Q3:=hid q3;clear q3 q0;exact c36
   have b1:(ev==1)=false:=by simpa using q3
   have hr2:r.tmod 2=r%2:=Int.tmod_eq_emod_of_nonneg (by omega)
   have hbd: -2147483648≤r+bb∧r+bb≤2147483647:=by omega
   by_cases q4:ev=2
   ·have b2:(ev==2)=true:=by simp[q4]
    have b3:(ev==3)=false:=by simp[q4]
    by_cases q5:r%2=0
    ·rw[if_pos (Or.inr (Or.inl ⟨q4,q5⟩))]at hcl;have b5:(r%2==0)=true:=by simp[q5]
     clear q0 q3 q4 q5 hr2;exact c36
    ·rw[if_neg (by omega)]at hcl
     have b5:(r%2==0)=false:=by simpa using q5
     clear q0 q3 q4 q5 hr2;exact c36
   have b2:(ev==2)=false:=by simpa using q4
   by_cases q6:ev=3
   ·have b3:(ev==3)=true:=by simp[q6]
    by_cases q5:r%2=1
    ·rw[if_pos (Or.inr (Or.inr ⟨q6,q5⟩))]at hcl;have b5:(r%2==1)=true:=by simp[q5]
     clear q0 q3 q4 q5 q6 hr2;exact c36
    ·rw[if_neg (by omega)]at hcl
     have b5:(r%2==1)=false:=by simpa using q5
     clear q0 q3 q4 q5 q6 hr2;exact c36
   have b3:(ev==3)=false:=by simpa using q6
   rw[if_neg (by omega)]at hcl
   clear q0 q3 q4 q6 hr2;exact c36
  ·obtain rfl:i=24:=by omega
   have hcl:=HC.out;have hcl:r=foldM r:=hcl;have HCL:=hid hcl;clear hcl
   go_wp2_with fail
   exact hR'.out _ _ ⟨by rw[←HCL.out];first|rfl|skip,HK.out⟩
end Go.Proofs.YtogdknnkhkjmcaaGreatDoor
