/- Plain laws for Write: what a Delete makes of a good state; a new state is good. -/
import Derived.Test.YtogdknnkhkjmcaaGreatDoorJGoodH
namespace Go.Proofs.YtogdknnkhkjmcaaGreatDoor
open Go.RowKit
set_option linter.all false
theorem tfindL_lt {cs:List Int}{b id:Int}:∀(n d:Nat),0≤(tfindL cs b id n d).1→(tfindL cs b id n d).2=true→(tfindL cs b id n d).1<((d+n:Nat):Int)
 |0,d,h,_=>by
  have h:(0:Int)≤-1:=h
  omega
 |n+1,d,h,h2=>by
  unfold tfindL at h h2 ⊢
  split
  ·rename_i c1
   rw[if_pos c1]at h2;cases h2
  ·rename_i c1
   rw[if_neg c1]at h h2
   split
   ·show(d:Int)<_;omega
   ·rename_i c2
    rw[if_neg c2]at h h2;have:=tfindL_lt n (d+1) h h2
    omega
theorem rplaceL_at {cs:List Int}{id:Int}:∀(l:List SegM) (i:Nat),(∀x∈l,0≤x.base∧x.base+4*(x.docs:Int)≤(cs.length:Int))→(rplaceL cs id l i).2.2=true→
  ∃(j d:Nat) (x:SegM),l[j]? =some x∧rplaceL cs id l i=(((i+j:Nat):Int),(d:Int),true)∧d<x.docs
 | [],i,_,h=>by cases h
 |x::l,i,hb,h=>by
  obtain⟨x0,x1⟩:=hb x List.mem_cons_self;unfold rplaceL at h ⊢
  by_cases c0:0≤(tfindL cs x.base id x.docs 0).1
  ·rw[if_pos c0];obtain⟨c2,_,_,g3⟩:=findT_both (cs:=cs) (id:=id) x0 x.docs 0 (by omega)
   have:=tfindL_lt x.docs 0 c0 g3;exact⟨0,(tfindL cs x.base id x.docs 0).1.toNat,x,rfl,Prod.ext rfl (Prod.ext (by dsimp only;omega) rfl),by omega⟩
  ·rw[if_neg c0]at h ⊢;obtain⟨j,d,y,h1,h2,h3⟩:=rplaceL_at l (i+1) (fun y hy=>hb y (List.mem_cons_of_mem _ hy)) h;exact⟨j+1,d,y,by simpa using h1,by rw[h2,show i+1+j=i+(j+1) by omega],h3⟩
section
variable {C:ConfM}{P:Pools}{cs:List Int}{W:WrM}{live:SegM}{s:Nat}{t:Tab}{q:Nat→Nat}{hi:Nat}
theorem Good.inb (G:Good C P cs W live s t q hi):∀x∈W.segs,0≤x.base∧x.base+4*(x.docs:Int)≤(cs.length:Int):=fun x hx=>by
 have hb:=plan_base5 C G.ok;have hbk:=G.ok.k0;have h5:C.plan.size.a4=C.book:=rfl;have:=G.segs x hx
 omega
theorem Good.found (G:Good C P cs W live s t q hi){id:Int}(h:(rplaceL cs id W.segs 0).2.2=true):∃(j d qa:Nat) (x:SegM),W.segs[j]? =some x∧rplaceL cs id W.segs 0=((j:Int),(d:Int),true)∧d<x.docs∧x.base+4*(d:Int)+3=(qa:Int)∧qa<cs.length∧3<qa∧
  C.plan.base.a5≤(qa:Int)∧(qa<s∨s+C.plan.slots.toNat≤qa):=by
 obtain⟨j,d,x,h1,h2,h3⟩:=rplaceL_at W.segs 0 G.inb h;rw[Nat.zero_add]at h2;have hx:=G.segs x (List.mem_of_getElem? h1);have hb:=plan_base5 C G.ok;have hbk:=G.ok.k0;have h5:C.plan.size.a4=C.book:=rfl;exact⟨j,d,(x.base+4*(d:Int)+3).toNat,x,h1,h2,h3,by omega,by omega,by omega,by omega,by omega⟩
theorem Good.del (G:Good C P cs W live s t q hi)(id:Int)(hv:W.ver+1≤4294967295):
  ∃W' er cs' c,rdelL ⟨cs,W⟩ id=(er,⟨cs',W'⟩)∧(delT W id).ideal cs=some ((W',er),cs',c)∧c<1048576∧(er≠0→W'=W∧cs'=cs)∧(er=0∨er=7)∧Good C P cs' W' live s t q hi:=by
 obtain⟨c1,p1,p2⟩:=G.place id
 cases hp:(rplaceL cs id W.segs 0).2.2 with
 |false=>
  refine⟨W,7,cs,c1,by unfold rdelL;rw[if_pos hp],?_,by omega,fun _=>⟨rfl,rfl⟩,Or.inr rfl,G⟩
  unfold delT;rw[Tree.ideal_bind,p2,Option.bind_some,if_pos hp]
  simp[Tree.ideal]
 |true=>
  obtain⟨j,d,qa,x,h1,h2,h3,h4,h5,h6,h7,h8⟩:=G.found hp;have hx:=G.segs x (List.mem_of_getElem? h1);have hgd:∀k:Nat,k≤3→0≤x.base+4*(d:Int)+(k:Int)∧x.base+4*(d:Int)+(k:Int)<(cs.length:Int):=fun k hk=>by
   have:=(G.inb x (List.mem_of_getElem? h1)).1
   omega
  have hrow:(rowT x.base (d:Int)).ideal cs=some (⟨cs.getD (x.base+4*(d:Int)+0).toNat 0,cs.getD (x.base+4*(d:Int)+1).toNat 0,cs.getD (x.base+4*(d:Int)+2).toNat 0,cs.getD (x.base+4*(d:Int)+3).toNat 0⟩,cs,4):=by
   have g0:0≤x.base+4*(d:Int)+0∧x.base+4*(d:Int)+0<(cs.length:Int):=hgd 0 (by decide)
   have g1:0≤x.base+4*(d:Int)+1∧x.base+4*(d:Int)+1<(cs.length:Int):=hgd 1 (by decide)
   have g2:0≤x.base+4*(d:Int)+2∧x.base+4*(d:Int)+2<(cs.length:Int):=hgd 2 (by decide)
   have g3:0≤x.base+4*(d:Int)+3∧x.base+4*(d:Int)+3<(cs.length:Int):=hgd 3 (by decide)
   unfold rowT;simp only[Tree.ideal];rw[if_pos g0,if_pos g1,if_pos g2,if_pos g3]
   rfl
  have hR:rdelL ⟨cs,W⟩ id=if cs.getD qa 0≠0 then(7,⟨cs,W⟩)else(0,⟨(cs.set qa (W.ver+1)).set 1 (W.ver+1),{ W with ver:=W.ver+1 }⟩):=by
   unfold rdelL;dsimp only;rw[if_neg (by rw[hp];decide),h2]
   dsimp only;rw[Int.toNat_natCast,h1];dsimp only;rw[h4,Int.toNat_natCast]
  have hT:(delT W id).ideal cs=((if cs.getD qa 0≠0 then Tree.ret (W,7)else Tree.store (x.base+4*(d:Int)+3) (W.ver+1) (.store 1 (W.ver+1) (.ret (({ W with ver:=W.ver+1 }:WrM),(0:Int))))).ideal cs).map fun z=>(z.1,z.2.1,z.2.2+4+c1):=by
   unfold delT;rw[Tree.ideal_bind,p2,Option.bind_some,h2];dsimp only;rw[if_neg (by decide),Int.toNat_natCast,h1]
   dsimp only;rw[Tree.ideal_bind,hrow,Option.bind_some];dsimp only;rw[h4,Int.toNat_natCast];show Option.map _ (Option.map _ ((if false=true∨cs.getD qa 0≠0 then _ else(killT x.base (d:Int) (W.ver+1)).bind _:Tree (WrM×Int)).ideal cs))=_
   unfold killT;rw[h4,Option.map_map]
   by_cases h0:cs.getD qa 0≠0
   ·rw[if_pos h0,if_pos (Or.inr h0)];rfl
   ·rw[if_neg h0,if_neg (by rintro(h|h);cases h;exact h0 h)];rfl
  by_cases h0:cs.getD qa 0=0
  ·have h0':¬cs.getD qa 0≠0:=fun h=>h h0;have hcl:((cs.set qa (W.ver+1)).set 1 (W.ver+1)).length=cs.length:=by simp
   refine⟨{ W with ver:=W.ver+1 },0,(cs.set qa (W.ver+1)).set 1 (W.ver+1),0+1+1+4+c1,by rw[hR,if_neg h0'],?_,by omega,fun h=>absurd rfl h,Or.inl rfl,?_⟩
   ·rw[hT,if_neg h0',store_ideal (i:=qa) h4 h5,store_ideal (a:=1) (i:=1) rfl (by rw[List.length_set];omega)]
    rfl
   ·have hver:=G.ver;have hu:U32 (W.ver+1):=by unfold U32;omega
    have hb:=plan_base5 C G.ok;have hr:=G.dic.rep.book;refine⟨G.ok,G.all,by rw[hcl];exact G.clen,G.dic.frame hcl (fun i hi2=>?_) (set_u32 (set_u32 G.dic.u32 hu _) hu _),G.last,G.raw,G.row,G.room,G.docs,by rw[hcl];exact G.segs,G.nseg,G.terms,G.few,G.used,by show 0≤W.ver+1;omega⟩
    have h9:=lo_ge G.dic.ok;have h10:=G.dic.top;have h11:=G.dic.base;have h12:=G.dic.a4;rw[set_get (by omega),set_get (by omega)]
  ·refine⟨W,7,cs,0+4+c1,by rw[hR,if_pos h0],?_,by omega,fun _=>⟨rfl,rfl⟩,Or.inr rfl,G⟩
   rw[hT,if_pos h0];rfl
end
def ConfM.slabs (c:ConfM):Pools:=⟨fun k=>match k with|0=>3|1=>(3+4*c.s0).toNat|2=>(3+4*c.s0+16*c.s1).toNat|_=>(3+4*c.s0+16*c.s1+64*c.s2).toNat,fun k=>match k with|0=>c.s0.toNat|1=>c.s1.toNat|2=>c.s2.toNat|_=>c.s3.toNat⟩
theorem slabs_ok (c:ConfM)(h:c.ok)(hall:c.all≤65536):c.slabs.ok∧c.plan.lays c.slabs∧c.plan.base.a4=((c.slabs.b 3+256*c.slabs.n 3:Nat):Int):=by
 obtain⟨d0,d1,t0,t1,a0,a1,b0,b1,c0,c1,e0,e1,k0,k1,r0,r1⟩:=h;unfold ConfM.all at hall;refine⟨⟨?_,?_,?_,?_,?_⟩,⟨?_,?_⟩,?_⟩
 all_goals(first|(simp only[ConfM.slabs];omega)|omega|skip)
 ·intro k hk
  rcases k_cases hk with rfl|rfl|rfl|rfl<;>simp only[ConfM.slabs,PlanM.bK,ConfM.plan]<;>omega
 ·intro k hk
  rcases k_cases hk with rfl|rfl|rfl|rfl<;>simp only[ConfM.slabs,sz,PlanM.sK,ConfM.plan]<;>omega
 ·simp only[ConfM.slabs,ConfM.plan];omega
def newW (C:ConfM):WrM:=⟨[⟨C.plan.base.a5,0,false⟩],0,0,⟨0,0,0,0,0,C.plan.live+2⟩⟩
def newC (C:ConfM):List Int:=(((List.replicate C.all.toNat (0:Int)).set (C.plan.base.a5+C.plan.live).toNat 1).set (C.plan.base.a5+C.plan.live+1).toNat C.plan.base.a5).set 2 (C.plan.base.a5+C.plan.live)
theorem Good.new (C:ConfM)(h:C.ok)(hall:C.all≤65000)(hf:¬C.plan.size.a5<C.plan.live+2):
  Good C C.slabs (newC C) (newW C) ⟨C.plan.base.a5,0,false⟩ (C.plan.base.a5+1+4*C.docs).toNat (fun _=>none) (fun _=>0) C.plan.base.a4.toNat:=by
 obtain⟨h1,h2,h3⟩:=slabs_ok C h (by omega)
 obtain⟨b1,b2,b3⟩:=plan_base5 C h;obtain⟨ts1,ts2,ts3⟩:=plan_slots C h;have hd0:=h.d0;have hbk:=h.k0;have h5:C.plan.size.a4=C.book:=rfl;have hlv:C.plan.live=1+4*C.docs+C.plan.slots:=rfl;have hlen:(newC C).length=C.all.toNat:=by unfold newC;simp
 have hget:∀i:Nat,i<C.all.toNat→i≠2→(i:Int)≠C.plan.base.a5+C.plan.live→(i:Int)≠C.plan.base.a5+C.plan.live+1→(newC C)[i]? =some 0:=by
  intro i g1 g2 g3 g4;unfold newC;rw[set_get g2,set_get (by omega),set_get (by omega),List.getElem?_replicate,if_pos g1]
 have hlo:=lo_ge h1;refine⟨h,hall,by rw[hlen];omega,⟨h1,h2,by omega,by omega,⟨by rw[hlen];omega,by omega,by omega,fun i hi _=>?_,fun _ _ _ _ e=>(by cases e),fun _ _ _ _ e=>(by cases e),fun _ _ _ _ e=>(by cases e),fun _ _ _ _ e=>(by cases e)⟩,WF.empty _ _,h3,?_,?_,by omega,fun i g1 g2=>?_,fun _ _ _ _ _ _ _ _ e=>(by cases e),fun _ _ _ _ e=>(by cases e),?_,?_,by rw[hlen];omega⟩,rfl,rfl,?_,Int.le_refl _,?_,?_,(by show 1≤4096;decide),?_,?_,?_,Int.le_refl _⟩
 ·exact hget _ (by omega) (by omega) (by omega) (by omega)
 ·show _=C.plan.base.a4+0;omega
 ·show 0≤(0:Int)∧(0:Int)≤_;omega
 ·exact hget _ (by omega) (by omega) (by omega) (by omega)
 ·intro k hk
  rcases k_cases hk with rfl|rfl|rfl|rfl<;>rfl
 ·unfold newC;have hr:∀y∈List.replicate C.all.toNat (0:Int),U32 y:=fun y hy=>by rw[(List.mem_replicate.1 hy).2];unfold U32;omega
  exact set_u32 (set_u32 (set_u32 hr (by unfold U32;omega) _) (by unfold U32;omega) _) (by unfold U32;omega) _
 ·show C.plan.base.a5+1+4*C.docs=_;omega
 ·show((0:Nat):Int)≤C.docs;omega
 ·intro x hx;have hx:x=⟨C.plan.base.a5,0,false⟩:=by simpa[newW]using hx
  subst hx;have hb9:SegM.base ⟨C.plan.base.a5,0,false⟩=C.plan.base.a5+1:=rfl;rw[hb9,hlen];exact⟨by omega,by dsimp only;omega,(by show 0≤64;decide),Or.inl (by dsimp only;omega)⟩
 ·have:∀n,occ (fun _=>none) n=0:=fun n=>by
   induction n with
   |zero=>rfl
   |succ n ih=>unfold occ;rw[ih];rfl
  rw[this];rfl
 ·show(0:Int)≤C.terms;have:=h.t0;omega
 ·have hs:=(plan_facts h (by omega:C.all≤65536)).g
  intro k hk;have:=hs k hk
  rcases(by omega:k=0∨k=1∨k=2∨k=3∨k=4∨k=5)with rfl|rfl|rfl|rfl|rfl|rfl
  all_goals first|(refine⟨Int.le_refl _,?_⟩;exact this.1)|(show 0≤C.plan.live+2∧C.plan.live+2≤C.plan.size.a5;omega)
end Go.Proofs.YtogdknnkhkjmcaaGreatDoor
