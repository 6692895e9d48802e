/- Lemmas on the programs that the statement reaches. -/
import Derived.Test.YtogdknnkhkjmcaaGreatDoorKWrR4
import Derived.Test.YtogdknnkhkjmcaaGreatDoorKRcM
import Derived.Test.YtogdknnkhkjmcaaGreatDoorKRcK
import Derived.Test.YtogdknnkhkjmcaaGreatDoorKWrR3
import Derived.Test.YtogdknnkhkjmcaaGreatDoorKWrR5
import Derived.Test.YtogdknnkhkjmcaaGreatDoorKWrR6
import Derived.Test.YtogdknnkhkjmcaaGreatDoorKWrR7
namespace Go.Proofs.YtogdknnkhkjmcaaGreatDoor
open Go.RowKit
set_option linter.all false
def WordsTo (p:PlanM)(s n:Nat)(d:Int):List TokI→List Int→V6→List Int→V6→Prop
 | [],cs,u,cs',u'=>cs'=cs∧u'=u
 |x::l,cs,u,cs',u'=>(∀y∈cs,U32 y)∧∃cs1 rc u1 tl cs2 t2 u2,RecTo p cs u s n (keyB x.1 x.2.1) cs1 rc u1∧cs1[rc]? =some ((tl:Nat):Int)∧tl<cs.length∧PutsTo p cs1 u1 tl (wordOf d x.2.2) cs2 t2 u2∧WordsTo p s n d l (cs2.set rc (t2:Int)) u2 cs' u'
theorem WordsTo.len {p:PlanM}{s n:Nat}{d:Int}:∀{l:List TokI} {cs cs':List Int} {u u':V6},WordsTo p s n d l cs u cs' u'→cs'.length=cs.length
 | [],_,_,_,_,h=>by rw[h.1]
 |x::l,_,_,_,_,h=>by
  obtain⟨_,cs1,rc,u1,tl,cs2,t2,u2,h1,_,_,h4,h5⟩:=h;rw[h5.len,List.length_set,h4.len.1,h1.len.1]
theorem freshN_zero {l:List TokI}:∀{all:List TermM},(∀y∈all,y.recd=0→1≤cntK y.key ([]:List TokI))→freshN all=0
 | [],_=>rfl
 |y::r,h=>by
  show(if y.recd=0 then 1 else 0)+freshN r=0
  rw[freshN_zero (l:=l) fun z hz=>h z (List.mem_cons_of_mem _ hz)]
  split
  ·rename_i h0
   have:=h y List.mem_cons_self h0;exact absurd this (by show¬1≤0;omega)
  ·rfl
theorem words_all {p:PlanM}{P:Pools}{s n:Nat}(d:Int):∀(l:List TokI) {cs:List Int} {u:V6} {t:Tab} {q:Nat→Nat} {hi:Nat} {all:List TermM},DicAt p P s n cs u t q hi→TermsAt cs t n all l→occ t n+freshN all<n→
  (∀k,k<6→(u.add (sumN p l all)).g6 k≤p.size.g6 k)→(∀k,k<6→0≤u.g6 k)→
  ∃cs' u' t' q' hi' all',WordsTo p s n d l cs u cs' u'∧DicAt p P s n cs' u' t' q' hi'∧occ t' n=occ t n+freshN all∧u'.a5=u.a5∧(∀k,k<6→0≤u'.g6 k)∧(∀k,k<6→u'.g6 k≤(u.add (sumN p l all)).g6 k)∧
   (∃c,c≤l.length*(n*7+20)∧(wordsT p (s:Int) n d l all u).ideal cs=some ((all',u'),cs',c))∧
   (∀j:Nat,j<3∨(p.base.a4+p.size.a4≤(j:Int)∧j<s)∨s+n≤j→cs'[j]? =cs[j]?)∧cs'.length=cs.length∧(∀i k a,t' i=some (k,a)→(∃a',t i=some (k,a'))∨∃x∈l,k=bsL (keyB x.1 x.2.1))
 | [],cs,u,t,q,hi,all,D,T,ho,hf,hu=>by
  have h0:=freshN_zero (l:=[]) T.cnt;refine⟨cs,u,t,q,hi,all,⟨rfl,rfl⟩,D,by omega,rfl,hu,fun k hk=>?_,⟨0,Nat.zero_le _,rfl⟩,fun _ _=>rfl,rfl,fun i k a e=>Or.inl ⟨a,e⟩⟩
  rw[V6.addg];have hnn:∀z∈all,∀k,k<6→0≤(ndT p z (cntK z.key [])).g6 k:=by
   intro z hz k hk;obtain⟨e1,e2⟩:=T.look z hz;have hr:z.recd≠0:=fun h=>by have h9:=T.cnt z hz h;exact absurd h9 (by show¬1≤0;omega)
   have htl:∃(tl:Nat) (v:Option (Nat×Nat×Nat)),z.tl=(tl:Int)∧TailIs P q tl v:=by
    by_cases h0:(probe t n (homeD n (bsL z.key)) (bsL z.key) n 0).1=0
    ·refine⟨0,none,?_,Or.inl ⟨rfl,rfl⟩⟩;rw[e2];unfold lookP;rw[if_pos h0];rfl
    ·obtain⟨j,a,hj,hta,hx,_⟩:=probe_sound (x:=(probe t n (homeD n (bsL z.key)) (bsL z.key) n 0).1) (y:=(probe t n (homeD n (bsL z.key)) (bsL z.key) n 0).2) rfl h0 D.n0;obtain⟨tl,v,g1,g2⟩:=D.tails _ _ _ hj hta;refine⟨tl,v,?_,g2⟩;rw[e2];unfold lookP;rw[if_neg h0,hx,Int.toNat_natCast];exact(getD_of g1).2
   obtain⟨tl,v,h1,h2⟩:=htl;unfold ndT;rw[V6.addg,h1,if_neg hr];have a1:=h2.pos D.ok D.lays (cntK z.key []) k hk;have a2:0≤zerosN.g6 k:=by unfold zerosN V6.g6;split<;>decide
   omega
  have:=(sumN_mem hnn).1 k hk
  omega
 |x::l,cs,u,t,q,hi,all,D,T,ho,hf,hu=>by
  obtain⟨cs1,rc,u1,tl,cs2,t2,u2,t',q',hi',all',h1,h2,h3,h4,h5,h6,h7,h8,h9,h10,⟨c1,h11,h12⟩,h13,h14,h15⟩:=word_step D T ho hf hu d;have hu2:∀k,k<6→0≤u2.g6 k:=fun k hk=>Int.le_trans (hu k hk) (h10 k hk);obtain⟨cs',u',t'',q'',hi'',all'',g1,g2,g3,g4,g5,g6,⟨c2,g7,g8⟩,g9,g10,g11⟩:=words_all d l h5 h6 (by omega) (fun k hk=>by rw[h8];exact hf k hk) hu2
  refine⟨cs',u',t'',q'',hi'',all'',⟨D.u32,cs1,rc,u1,tl,cs2,t2,u2,h1,h2,h3,h4,g1⟩,g2,by omega,by rw[g4,h9],g5,fun k hk=>by rw[←h8];exact g6 k hk,⟨c2+c1,?_,?_⟩,fun j hj=>by rw[g9 j hj,h13 j hj],by rw[g10,h14],fun i k a e=>by
   rcases g11 i k a e with⟨a',e'⟩|⟨x',hx',e'⟩
   ·rcases h15 i k a' e' with h|h
    ·exact Or.inl h
    ·exact Or.inr ⟨x,List.mem_cons_self,h⟩
   ·exact Or.inr ⟨x',List.mem_cons_of_mem _ hx',e'⟩⟩
  ·have:(x::l).length*(n*7+20)=l.length*(n*7+20)+(n*7+20):=Nat.succ_mul _ _
   omega
  ·show((wordT p (s:Int) n d x all u).bind fun y=>wordsT p (s:Int) n d l y.1 y.2).ideal cs=_;rw[Tree.ideal_bind,h12];simp only[Option.bind_some,g8,Option.map_some]
theorem cntK_app (k:ByteArray)(x:TokI):∀(l:List TokI),cntK k (l++[x])=cntK k l+(if keyB x.1 x.2.1=k then 1 else 0)
 | []=>by show(if keyB x.1 x.2.1=k then 1 else 0)+0=0+_;omega
 |y::l=>by
  show(if keyB y.1 y.2.1=k then 1 else 0)+cntK k (l++[x])=((if keyB y.1 y.2.1=k then 1 else 0)+cntK k l)+_
  rw[cntK_app k x l];omega
theorem cntK_zero {k:ByteArray}:∀{l:List TokI},(∀x∈l,keyB x.1 x.2.1≠k)→cntK k l=0
 | [],_=>rfl
 |y::l,h=>by
  show(if keyB y.1 y.2.1=k then 1 else 0)+cntK k l=0
  rw[if_neg (h y List.mem_cons_self),cntK_zero fun x hx=>h x (List.mem_cons_of_mem _ hx)]
theorem cntK_pos {k:ByteArray}:∀{l:List TokI},(∃x∈l,keyB x.1 x.2.1=k)→1≤cntK k l
 | [],h=>by obtain⟨x,hx,_⟩:=h;cases hx
 |y::l,h=>by
  show 1≤(if keyB y.1 y.2.1=k then 1 else 0)+cntK k l
  obtain⟨x,hx,hk⟩:=h
  rcases List.mem_cons.1 hx with rfl|hx
  ·rw[if_pos hk];omega
  ·have:=cntK_pos ⟨x,hx,hk⟩
   omega
structure TI (pre:List TokI)(out:List TermM):Prop where
 uniq:(out.map TermM.key).Nodup
 cnt:∀y∈out,y.cnt=(cntK y.key pre:Int)
 has:∀x∈pre,keyB x.1 x.2.1∈out.map TermM.key
 src:∀k∈out.map TermM.key,∃x∈pre,keyB x.1 x.2.1=k
theorem map_uniq {α β:Type}{f:α→β}{l:List α}(h:(l.map f).Nodup){i j:Nat}{y z:α}(h1:l[i]? =some y)(h2:l[j]? =some z)(e:f y=f z):i=j:=by
 obtain⟨a1,rfl⟩:=List.getElem?_eq_some_iff.1 h1;obtain⟨a2,rfl⟩:=List.getElem?_eq_some_iff.1 h2;have hp:=List.pairwise_iff_getElem.1 h
 rcases Nat.lt_trichotomy i j with c|c|c
 ·exact absurd (by rw[List.getElem_map,List.getElem_map];exact e) (hp i j (by simpa using a1) (by simpa using a2) c)
 ·exact c
 ·exact absurd (by rw[List.getElem_map,List.getElem_map];exact e.symm) (hp j i (by simpa using a2) (by simpa using a1) c)
theorem termsP_ti (cs:List Int)(t:Tab)(n:Nat):∀(l pre:List TokI) (out:List TermM),TI pre out→TI (pre++l) (termsP cs t n l out)
 | [],pre,out,h=>by rw[List.append_nil];exact h
 |x::l,pre,out,h=>by
  rw[show pre++x::l=(pre++[x])++l by simp]
  unfold termsP
  cases he:out[keyIx (keyB x.1 x.2.1) out]? with
  |some y=>
   have hk:=keyIx_key he;obtain⟨hl,hg⟩:=List.getElem?_eq_some_iff.1 he;have hmap:(out.set (keyIx (keyB x.1 x.2.1) out) { y with cnt:=y.cnt+1 }).map TermM.key=out.map TermM.key:=by
    rw[List.map_set];dsimp only;have:y.key=(out.map TermM.key)[keyIx (keyB x.1 x.2.1) out]'(by simpa using hl):=by simp[hg]
    rw[this,List.set_getElem_self]
   refine termsP_ti cs t n l _ _ ⟨by rw[hmap];exact h.uniq,fun z hz=>?_,fun z hz=>?_,fun k hk2=>?_⟩
   ·obtain⟨j,hj⟩:=List.mem_iff_getElem?.1 hz;rw[cntK_app]
    by_cases c1:keyIx (keyB x.1 x.2.1) out=j
    ·subst c1;rw[List.getElem?_set_self hl]at hj;injection hj with hj;subst hj
     dsimp only;rw[if_pos hk.symm,h.cnt y (List.mem_of_getElem? he)]
     omega
    ·rw[List.getElem?_set_ne c1]at hj;have hne:keyB x.1 x.2.1≠z.key:=fun e=>c1 (map_uniq h.uniq he hj (by rw[hk,e]))
     rw[if_neg hne,h.cnt z (List.mem_of_getElem? hj)];rfl
   ·rw[hmap]
    rcases List.mem_append.1 hz with g|g
    ·exact h.has z g
    ·rw[List.mem_singleton.1 g,←hk];exact List.mem_map.2 ⟨y,List.mem_of_getElem? he,rfl⟩
   ·rw[hmap]at hk2;obtain⟨z,hz,e⟩:=h.src k hk2;exact⟨z,List.mem_append.2 (Or.inl hz),e⟩
  |none=>
   have hno:∀y∈out,y.key≠keyB x.1 x.2.1:=fun y hy e=>by
    obtain⟨t0,ht0⟩:=hasK.ix ⟨y,hy,e⟩;rw[he]at ht0;cases ht0
   have hlk:=lookP_key cs t n (keyB x.1 x.2.1);refine termsP_ti cs t n l _ _ ⟨?_,fun z hz=>?_,fun z hz=>?_,fun k hk2=>?_⟩
   ·rw[List.map_append];refine List.nodup_append.2 ⟨h.uniq,by simp,fun a ha b hb=>?_⟩
    simp only[List.map_cons,List.map_nil,List.mem_singleton,hlk.1]at hb;subst hb;obtain⟨y,hy,rfl⟩:=List.mem_map.1 ha;exact hno y hy
   ·rw[cntK_app]
    rcases List.mem_append.1 hz with g|g
    ·rw[if_neg (fun e=>hno z g e.symm),h.cnt z g];rfl
    ·rw[List.mem_singleton.1 g,hlk.1,hlk.2,if_pos rfl,cntK_zero fun y hy e=>by
      obtain⟨w,hw,e2⟩:=List.mem_map.1 (h.has y hy);exact hno w hw (by rw[e2,e])]
     rfl
   ·rw[List.map_append]
    rcases List.mem_append.1 hz with g|g
    ·exact List.mem_append.2 (Or.inl (h.has z g))
    ·rw[List.mem_singleton.1 g];exact List.mem_append.2 (Or.inr (by simp[hlk.1]))
   ·rw[List.map_append]at hk2
    rcases List.mem_append.1 hk2 with g|g
    ·obtain⟨z,hz,e⟩:=h.src k g;exact⟨z,List.mem_append.2 (Or.inl hz),e⟩
    ·simp only[List.map_cons,List.map_nil,List.mem_singleton,hlk.1]at g;exact⟨x,by simp,g.symm⟩
theorem needsP_sum {p:PlanM}{toks:List TokI}:∀{all:List TermM},(∀y∈all,y.cnt=(cntK y.key toks:Int))→∀(fr:Int) (more:V6),needsP p all fr more=(fr+(freshN all:Int),more.add (sumN p toks all))
 | [],_,fr,more=>by
  show(fr,more)=(fr+0,more.add zerosN);rw[V6.add_zero,Int.add_zero]
 |y::r,h,fr,more=>by
  have hy:=h y List.mem_cons_self;have ih:=fun fr more=>needsP_sum (p:=p) (toks:=toks) (all:=r) (fun z hz=>h z (List.mem_cons_of_mem _ hz)) fr more;rw[needsP_cons];show _=(fr+((((if y.recd=0 then 1 else 0)+freshN r:Nat)):Int),more.add ((ndT p y (cntK y.key toks)).add (sumN p toks r)))
  unfold ndT
  by_cases h0:y.recd=0
  ·rw[if_pos h0,if_pos h0,if_pos h0,ih,hy];refine Prod.ext ?_ ?_
   ·dsimp only;omega
   ·dsimp only;unfold V6.add V6.sum bookV;refine V6.ext' ?_ ?_ ?_ ?_ ?_ ?_<;>dsimp only<;>omega
  ·rw[if_neg h0,if_neg h0,if_neg h0,ih,hy];refine Prod.ext ?_ ?_
   ·dsimp only;omega
   ·dsimp only;unfold V6.add V6.sum zerosN;refine V6.ext' ?_ ?_ ?_ ?_ ?_ ?_<;>dsimp only<;>omega
theorem terms_at {cs:List Int}{t:Tab}{n:Nat}{toks:List TokI}(hs:∀x∈toks,x.2.1.size≤16):TermsAt cs t n (termsP cs t n toks []) toks∧(∀y∈termsP cs t n toks [],y.cnt=(cntK y.key toks:Int))∧freshN (termsP cs t n toks [])≤toks.length:=by
 have h:=termsP_ti cs t n toks [] [] ⟨List.nodup_nil,fun y hy=>(by cases hy),fun y hy=>(by cases hy),fun y hy=>(by cases hy)⟩
 rw[List.nil_append]at h;refine⟨⟨fun i j y z h1 h2 e=>map_uniq h.uniq h1 h2 e,termsP_looked cs t n toks [] (fun y hy=>(by cases hy)),fun x hx=>?_,fun y hy=>?_,fun y hy _=>?_⟩,h.cnt,?_⟩
 ·obtain⟨y,hy,e⟩:=List.mem_map.1 (h.has x hx);exact⟨y,hy,e⟩
 ·obtain⟨x,hx,e⟩:=h.src y.key (List.mem_map.2 ⟨y,hy,rfl⟩);rw[←e,keyB_size];have:=hs x hx
  omega
 ·obtain⟨x,hx,e⟩:=h.src y.key (List.mem_map.2 ⟨y,hy,rfl⟩);exact cntK_pos ⟨x,hx,e⟩
 ·have h1:∀l:List TermM,freshN l≤l.length:=fun l=>by
   induction l with
   |nil=>exact Nat.le_refl _
   |cons y r ih=>
    show(if y.recd=0 then 1 else 0)+freshN r≤r.length+1
    split<;>omega
  have h2:=keysL_len toks [];have h3:=congrArg List.length (termsP_keys cs t n toks []);rw[List.length_map]at h3;have h4:=h1 (termsP cs t n toks []);have h5:(keysL toks (([]:List TermM).map kcOf)).length≤0+toks.length:=h2
  omega
theorem findT_both {cs:List Int}{b id:Int}(hb:0≤b):∀(n d:Nat),b+4*((d+n:Nat):Int)≤(cs.length:Int)→∃c,c≤n∧(findT b id n d).ideal cs=some ((tfindL cs b id n d).1,cs,c)∧(tfindL cs b id n d).2=true
 |0,d,_=>⟨0,Nat.le_refl _,rfl,rfl⟩
 |n+1,d,h=>by
  obtain⟨c,h1,h2,h3⟩:=findT_both (cs:=cs) (id:=id) hb n (d+1) (by omega)
  have hin:0≤b+4*(d:Int)+1∧b+4*(d:Int)+1<(cs.length:Int):=by omega
  have hat:atL cs (b+4*(d:Int)+1)=(cs.getD (b+4*(d:Int)+1).toNat 0,true):=by unfold atL;rw[if_pos hin]
  have e:∀k:Int→Tree Int,(Tree.load (b+4*(d:Int)+1) k).ideal cs=((k (cs.getD (b+4*(d:Int)+1).toNat 0)).ideal cs).map fun y=>(y.1,y.2.1,y.2.2+1):=fun k=>by
   show(if _ then _ else _)=_
   rw[if_pos hin]
  unfold findT tfindL;rw[e,hat,if_neg (fun h=>Bool.noConfusion h)];dsimp only
  by_cases c1:cs.getD (b+4*(d:Int)+1).toNat 0=id
  ·refine⟨1,by omega,?_,by rw[if_pos c1]⟩
   have e2:(if cs.getD (b+4*(d:Int)+1).toNat 0=id then((d:Int),true)else tfindL cs b id n (d+1)).1=(d:Int):=by rw[if_pos c1]
   rw[e2];show((if false=true then Tree.ret (-1)else if cs.getD (b+4*(d:Int)+1).toNat 0=id then _ else findT b id n (d+1):Tree Int).ideal cs).map _=_
   rw[if_neg (by decide),if_pos c1];rfl
  ·refine⟨c+1,by omega,?_,by rw[if_neg c1];exact h3⟩
   have e2:(if cs.getD (b+4*(d:Int)+1).toNat 0=id then((d:Int),true)else tfindL cs b id n (d+1)).1=(tfindL cs b id n (d+1)).1:=by rw[if_neg c1]
   rw[e2];show((if false=true then Tree.ret (-1)else if cs.getD (b+4*(d:Int)+1).toNat 0=id then _ else findT b id n (d+1):Tree Int).ideal cs).map _=_
   rw[if_neg (by decide),if_neg c1,h2];rfl
def sumDocs (l:List SegM):Nat:=(l.map SegM.docs).sum
theorem place_ideal {cs:List Int}{id:Int}:∀(l:List SegM) (i:Nat),(∀x∈l,0≤x.base∧x.base+4*(x.docs:Int)≤(cs.length:Int))→∃c,c≤sumDocs l∧(placeT id l i).ideal cs=some (rplaceL cs id l i,cs,c)
 | [],i,_=>⟨0,Nat.zero_le _,rfl⟩
 |x::l,i,h=>by
  obtain⟨c,h1,h2⟩:=place_ideal (cs:=cs) (id:=id) l (i+1) fun y hy=>h y (List.mem_cons_of_mem _ hy);obtain⟨x0,x1⟩:=h x List.mem_cons_self;obtain⟨c2,g1,g2,_⟩:=findT_both (cs:=cs) (id:=id) x0 x.docs 0 (by omega)
  have hsum:sumDocs (x::l)=x.docs+sumDocs l:=by simp[sumDocs]
  unfold placeT rplaceL;rw[Tree.ideal_bind,g2]
  by_cases c0:0≤(tfindL cs x.base id x.docs 0).1
  ·refine⟨c2,by omega,?_⟩
   simp[Tree.ideal,c0]
  ·refine⟨c+c2,by omega,?_⟩
   simp[c0,h2]
structure Good (C:ConfM)(P:Pools)(cs:List Int)(W:WrM)(live:SegM)(s:Nat)(t:Tab)(q:Nat→Nat)(hi:Nat):Prop where
 ok:C.ok
 all:C.all≤65000
 clen:(cs.length:Int)=C.all
 dic:DicAt C.plan P s C.plan.slots.toNat cs W.used t q hi
 last:W.segs.getLast?=some live
 raw:live.sealed=false
 row:live.addr+1+4*C.docs=(s:Int)
 room:C.plan.base.a5≤live.addr
 docs:(live.docs:Int)≤C.docs
 segs:∀x∈W.segs,C.plan.base.a5≤x.base∧x.base+4*(x.docs:Int)≤(cs.length:Int)∧x.docs≤64∧(x.base+4*(x.docs:Int)≤(s:Int)∨((s+C.plan.slots.toNat:Nat):Int)≤x.base)
 nseg:W.segs.length≤4096
 terms:W.terms=(occ t C.plan.slots.toNat:Int)
 few:W.terms≤C.terms
 used:∀k,k<6→0≤W.used.g6 k∧W.used.g6 k≤C.plan.size.g6 k
 ver:0≤W.ver
section
variable {C:ConfM}{P:Pools}{cs:List Int}{W:WrM}{live:SegM}{s:Nat}{t:Tab}{q:Nat→Nat}{hi:Nat}
theorem plan_slots (C:ConfM)(h:C.ok):C.terms<C.plan.slots∧128≤C.plan.slots∧C.plan.slots≤512:=by
 have:=h.t0;have:=h.t1;unfold ConfM.plan;dsimp only
 split
 ·omega
 ·split<;>omega
theorem plan_base5 (C:ConfM)(h:C.ok):3≤C.plan.base.a4∧C.plan.base.a4+C.plan.size.a4=C.plan.base.a5∧C.plan.base.a5+C.plan.size.a5=C.all:=by
 have:=h.a0;have:=h.b0;have:=h.c0;have:=h.e0;unfold ConfM.plan ConfM.all;dsimp only
 omega
theorem Good.base (G:Good C P cs W live s t q hi):live.base=live.addr+1:=by unfold SegM.base;rw[G.raw,if_neg (by decide)]
theorem Good.slot (G:Good C P cs W live s t q hi):live.base+4*C.docs=(s:Int):=by rw[G.base];exact G.row
theorem Good.docs64 (G:Good C P cs W live s t q hi):C.docs≤64:=G.ok.d1
theorem Good.sn (G:Good C P cs W live s t q hi):((C.plan.slots.toNat:Nat):Int)=C.plan.slots:=by have:=plan_slots C G.ok;omega
theorem Good.place (G:Good C P cs W live s t q hi)(id:Int):∃c,c≤262144∧(placeT id W.segs 0).ideal cs=some (rplaceL cs id W.segs 0,cs,c):=by
 have hb:=plan_base5 C G.ok;have h4:=G.dic.base;have hbk:=G.ok.k0;obtain⟨c,h1,h2⟩:=place_ideal (cs:=cs) (id:=id) W.segs 0 fun x hx=>by
  have:=G.segs x hx;have h5:C.plan.size.a4=C.book:=rfl
  omega
 have hs:∀l:List SegM,(∀x∈l,x.docs≤64)→sumDocs l≤64*l.length:=fun l=>by
  induction l with
  |nil=>intro _;exact Nat.le_refl _
  |cons x r ih=>
   intro h;have h1:=ih fun y hy=>h y (List.mem_cons_of_mem _ hy);have h2:=h x List.mem_cons_self;have h3:sumDocs (x::r)=x.docs+sumDocs r:=by simp[sumDocs]
   rw[h3,List.length_cons];omega
 have h3:=hs W.segs fun x hx=>(G.segs x hx).2.2.1;have h4:=G.nseg;exact⟨c,by omega,h2⟩
def addW (W:WrM)(fr:Int)(u':V6):WrM:=⟨moreDocs W.segs,W.terms+fr,W.ver+1,u'⟩
inductive AddWay (C:ConfM) (cs:List Int) (W:WrM) (live:SegM) (s:Nat) (id:Int) (toks:List TokI) (all:List TermM):WrM→Int→List Int→Prop
 |dup:(rplaceL cs id W.segs 0).2.2=true→AddWay C cs W live s id toks all W 6 cs
 |seg:(rplaceL cs id W.segs 0).2.2=false→C.docs≤(live.docs:Int)→AddWay C cs W live s id toks all W 5 cs
 |terms:(rplaceL cs id W.segs 0).2.2=false→¬C.docs≤(live.docs:Int)→C.terms-W.terms<(needsP C.plan all 0 zero6).1→AddWay C cs W live s id toks all W 5 cs
 |full:(rplaceL cs id W.segs 0).2.2=false→¬C.docs≤(live.docs:Int)→¬C.terms-W.terms<(needsP C.plan all 0 zero6).1→fitsP C.plan W.used (needsP C.plan all 0 zero6).2=false→AddWay C cs W live s id toks all W 3 cs
 |good (cs1:List Int) (u':V6) (qa:Nat):(rplaceL cs id W.segs 0).2.2=false→¬C.docs≤(live.docs:Int)→¬C.terms-W.terms<(needsP C.plan all 0 zero6).1→fitsP C.plan W.used (needsP C.plan all 0 zero6).2=true→
   WordsTo C.plan s C.plan.slots.toNat (live.docs:Int) toks cs W.used cs1 u'→live.base+4*(live.docs:Int)=(qa:Int)→qa+2<cs1.length→AddWay C cs W live s id toks all (addW W (needsP C.plan all 0 zero6).1 u') 0 ((layL cs1 qa id (toks.length:Int) (W.ver+1)).set 1 (W.ver+1))
theorem lay_ideal {cs:List Int}{b d id ln born:Int}{qa:Nat}{α:Type}{x:α}(h:b+4*d=(qa:Int))(hq:qa+2<cs.length)(hv:1<cs.length):((layT b d id ln born).bind fun _=> .store 1 born (.ret x)).ideal cs=some (x,(layL cs qa id ln born).set 1 born,4):=by
 unfold layT;show(Tree.store (b+4*d+1) id (.store (b+4*d+2) ln (.store (b+4*d+0) born (.store 1 born (.ret x))))).ideal cs=_;rw[store_ideal (i:=qa+1) (by omega) (by omega),store_ideal (i:=qa+2) (by omega) (by rw[List.length_set];omega),store_ideal (i:=qa) (by omega) (by rw[List.length_set,List.length_set];omega),
  store_ideal (a:=1) (i:=1) rfl (by rw[List.length_set,List.length_set,List.length_set];omega)]
 have e:((cs.set (qa+1) id).set (qa+2) ln).set qa born=layL cs qa id ln born:=by
  unfold layL;rw[List.set_comm _ _ (show qa+2≠qa by omega),List.set_comm _ _ (show qa+1≠qa by omega)]
 rw[e]
 rfl
theorem DicAt.frame {p:PlanM}{P:Pools}{s n:Nat}{cs cs':List Int}{u:V6}{t:Tab}{q:Nat→Nat}{hi:Nat}(D:DicAt p P s n cs u t q hi)(hl:cs'.length=cs.length)(h:∀j:Nat,(3≤j∧(j:Int)<p.base.a4+p.size.a4)∨(s≤j∧j<s+n)→cs'[j]? =cs[j]?)(hu:∀y∈cs',U32 y):
  DicAt p P s n cs' u t q hi:=by
 have hlo:=lo_ge D.ok;have htop:=D.top;have hbase:=D.base;have ha4:=D.a4;refine⟨D.ok,D.lays,D.n0,D.n1,?_,D.wf,D.base,D.top,D.a4,D.book,?_,D.apart,?_,D.used,hu,by rw[hl];exact D.len⟩
 ·have R:=D.rep;refine⟨by rw[hl];exact R.len,R.book,R.pos,fun j hj ej=>?_,fun j k a hj ej=>?_,R.lies,fun j k a hj ej=>?_,fun j k a hj ej jj c hc=>?_⟩
  ·rw[h _ (Or.inr (by omega))];exact R.void j hj ej
  ·rw[h _ (Or.inr (by omega))];exact R.slot j k a hj ej
  ·obtain⟨g1,g2,_,_⟩:=R.lies _ _ _ hj ej;rw[h _ (Or.inl (by omega))];exact R.size j k a hj ej
  ·obtain⟨g1,g2,_,_⟩:=R.lies _ _ _ hj ej;have hjl:jj<(packC k).length:=(List.getElem?_eq_some_iff.1 hc).1;rw[h _ (Or.inl (by omega))];exact R.key j k a hj ej jj c hc
 ·intro j g1 g2;rw[h _ (Or.inl (by omega))];exact D.zero j g1 g2
 ·intro j k a hj ej;obtain⟨g1,g2,_,_⟩:=D.rep.lies _ _ _ hj ej;rw[h _ (Or.inl (by omega))];exact D.tails _ _ _ hj ej
theorem fitsP_g {p:PlanM}{u m:V6}(h:fitsP p u m=true):∀k,k<6→m.g6 k≤p.size.g6 k-u.g6 k:=by
 unfold fitsP at h;simp only[Bool.and_eq_true,decide_eq_true_eq]at h;obtain⟨⟨⟨⟨⟨h0,h1⟩,h2⟩,h3⟩,h4⟩,h5⟩:=h;exact all_six h0.2.2.2 h1.2.2.2 h2.2.2.2 h3.2.2.2 h4.2.2.2 h5.2.2.2
theorem moreDocs_last {l:List SegM}{x:SegM}(h:l.getLast?=some x):(moreDocs l).getLast?=some { x with docs:=x.docs+1 }:=by
 unfold moreDocs;rw[h]
 simp
theorem moreDocs_mem {l:List SegM}{x y:SegM}(h:l.getLast?=some x)(hy:y∈moreDocs l):y∈l∨y={ x with docs:=x.docs+1 }:=by
 unfold moreDocs at hy;rw[h]at hy
 rcases List.mem_append.1 hy with g|g
 ·exact Or.inl ((List.dropLast_sublist l).subset g)
 ·exact Or.inr (by simpa using g)
theorem set_get {cs:List Int}{i j:Nat}{v:Int}(h:j≠i):(cs.set i v)[j]? =cs[j]? :=List.getElem?_set_ne (fun e=>h e.symm)
theorem Good.add (G:Good C P cs W live s t q hi)(id:Int)(hid:U32 id)(toks:List TokI)(hs:∀x∈toks,x.2.1.size≤16)(hn:toks.length≤64)(hv:W.ver+1≤4294967295):
  ∃W' er cs' c,AddWay C cs W live s id toks (termsP cs t C.plan.slots.toNat toks []) W' er cs'∧(addT C W live id toks).ideal cs=some ((W',er),cs',c)∧c<1048576∧(er≠0→W'=W∧cs'=cs)∧
   (er=0→∃t' q' hi',Good C P cs' W' { live with docs:=live.docs+1 } s t' q' hi'∧(∀i k a,t' i=some (k,a)→(∃a',t i=some (k,a'))∨∃x∈toks,k=bsL (keyB x.1 x.2.1))∧
    ∃qa:Nat,live.base+4*(live.docs:Int)=(qa:Int)∧cs'[qa+1]? =some id∧∀j:Nat,C.plan.base.a5≤(j:Int)→j<qa→cs'[j]? =cs[j]?):=by
 obtain⟨ts1,ts2,ts3⟩:=plan_slots C G.ok;have hsn:=G.sn;obtain⟨b1,b2,b3⟩:=plan_base5 C G.ok;have hslot:=G.slot;have hd64:=G.docs64;have hbase:=G.base;have hroom:=G.room;have hclen:=G.clen;have hrl:=G.dic.rep.len;have hdl:=G.dic.len;have hld:=G.docs;have hbk0:=G.ok.k0;have hsz4:C.plan.size.a4=C.book:=rfl;obtain⟨c1,p1,p2⟩:=G.place id;obtain⟨c2,q1,q2⟩:=termsT_ideal G.dic.rep G.dic.n0 toks [] hs
 obtain⟨T,hcnt,hfr⟩:=terms_at (cs:=cs) (t:=t) (n:=C.plan.slots.toNat) hs;have hc2:c2≤229440:=by
  have:toks.length*(C.plan.slots.toNat*7+1)≤64*(512*7+1):=Nat.mul_le_mul hn (by omega)
  omega
 have hnd:=needsP_sum (p:=C.plan) hcnt 0 zero6;have hz6:zero6=zerosN:=rfl;rw[hz6,V6.zero_add,Int.zero_add]at hnd;unfold addT
 cases hp:(rplaceL cs id W.segs 0).2.2 with
 |true=>
  refine⟨W,6,cs,c1,.dup hp,?_,by omega,fun _=>⟨rfl,rfl⟩,fun h=>absurd h (by decide)⟩
  rw[Tree.ideal_bind,p2,Option.bind_some,if_pos hp]
  simp[Tree.ideal]
 |false=>
  by_cases hx:C.docs≤(live.docs:Int)
  ·refine⟨W,5,cs,c1,.seg hp hx,?_,by omega,fun _=>⟨rfl,rfl⟩,fun h=>absurd h (by decide)⟩
   rw[Tree.ideal_bind,p2,Option.bind_some,if_neg (by rw[hp];decide)]
   show Option.map _ ((if false=true∨C.docs≤(live.docs:Int)then _ else _:Tree (WrM×Int)).ideal cs)=_
   rw[if_pos (Or.inr hx)]
   simp[Tree.ideal]
  ·have pre:∀k:List TermM→Tree (WrM×Int),((Tree.off fun o=>if o=true∨C.docs≤(live.docs:Int)then .ret (W,5)else(termsT (live.base+4*C.docs) C.plan.slots.toNat toks []).bind k).ideal cs)=
     ((k (termsP cs t C.plan.slots.toNat toks [])).ideal cs).map fun z=>(z.1,z.2.1,z.2.2+c2):=fun k=>by
    show(if false=true∨C.docs≤(live.docs:Int)then _ else _:Tree (WrM×Int)).ideal cs=_
    rw[if_neg (by simp[hx]),Tree.ideal_bind,hslot,q2];rfl
   by_cases h1:C.terms-W.terms<(needsP C.plan (termsP cs t C.plan.slots.toNat toks []) 0 zero6).1
   ·refine⟨W,5,cs,c2+c1,.terms hp hx h1,?_,by omega,fun _=>⟨rfl,rfl⟩,fun h=>absurd h (by decide)⟩
    rw[Tree.ideal_bind,p2,Option.bind_some,if_neg (by rw[hp];decide),pre]
    show Option.map _ (Option.map _ ((if false=true then _ else if _ then _ else _:Tree (WrM×Int)).ideal cs))=_
    rw[if_neg (by decide),if_pos h1]
    simp[Tree.ideal]
   ·cases h2:fitsP C.plan W.used (needsP C.plan (termsP cs t C.plan.slots.toNat toks []) 0 zero6).2 with
    |false=>
     refine⟨W,3,cs,c2+c1,.full hp hx h1 h2,?_,by omega,fun _=>⟨rfl,rfl⟩,fun h=>absurd h (by decide)⟩
     rw[Tree.ideal_bind,p2,Option.bind_some,if_neg (by rw[hp];decide),pre]
     show Option.map _ (Option.map _ ((if false=true then _ else if _ then _ else _:Tree (WrM×Int)).ideal cs))=_
     rw[if_neg (by decide),if_neg h1,if_pos h2]
     simp[Tree.ideal]
    |true=>
     have hfit:=fitsP_g h2;have h1':=h1;rw[hz6,hnd]at h1';rw[hz6,hnd]at hfit;dsimp only at h1' hfit;have hterms:=G.terms;obtain⟨cs1,u',t',q',hi',all',w1,w2,w3,w4,w5,w6,⟨c3,w7,w8⟩,w9,w10,w11⟩:=words_all (live.docs:Int) toks G.dic T (by omega) (fun k hk=>by rw[V6.addg];have:=hfit k hk;omega) (fun k hk=>(G.used k hk).1)
     obtain⟨qa,hqa⟩:∃qa:Nat,live.base+4*(live.docs:Int)=(qa:Int):=⟨(live.base+4*(live.docs:Int)).toNat,by omega⟩
     have hbk:=G.dic.book;have hq2:qa+2<cs1.length:=by omega
     have hc3:c3≤230656:=by
      have:toks.length*(C.plan.slots.toNat*7+20)≤64*(512*7+20):=Nat.mul_le_mul hn (by omega)
      omega
     refine⟨addW W (needsP C.plan (termsP cs t C.plan.slots.toNat toks []) 0 zero6).1 u',0,(layL cs1 qa id (toks.length:Int) (W.ver+1)).set 1 (W.ver+1),4+c3+c2+c1,.good cs1 u' qa hp hx h1 h2 w1 hqa hq2,?_,by omega,fun h=>absurd rfl h,fun _=>?_⟩
     ·rw[Tree.ideal_bind,p2,Option.bind_some,if_neg (by rw[hp];decide),pre]
      show Option.map _ (Option.map _ ((if false=true then _ else if _ then _ else if _ then _ else(wordsT C.plan (live.base+4*C.docs) C.plan.slots.toNat live.docs toks (termsP cs t C.plan.slots.toNat toks []) W.used).bind _:Tree (WrM×Int)).ideal cs))=_
      rw[if_neg (by decide),if_neg h1,if_neg (by rw[h2];decide),Tree.ideal_bind,hslot,w8,Option.bind_some]
      dsimp only;rw[lay_ideal hqa hq2 (by omega)]
      rfl
     ·have hll:((layL cs1 qa id (toks.length:Int) (W.ver+1)).set 1 (W.ver+1)).length=cs.length:=by
       unfold layL;simp only[List.length_set,w10]
      have hout:∀j:Nat,j≠1→j≠qa→j≠qa+1→j≠qa+2→((layL cs1 qa id (toks.length:Int) (W.ver+1)).set 1 (W.ver+1))[j]? =cs1[j]? :=by
       intro j e1 e2 e3 e4;unfold layL;rw[set_get e1,set_get e4,set_get e3,set_get e2]
      have hver:=G.ver;have hu32:∀y∈(layL cs1 qa id (toks.length:Int) (W.ver+1)).set 1 (W.ver+1),U32 y:=by
       unfold layL;have hu:U32 (W.ver+1):=by unfold U32;omega
       exact set_u32 (set_u32 (set_u32 (set_u32 w2.u32 hu _) hid _) (by unfold U32;omega) _) hu _
      refine⟨t',q',hi',⟨G.ok,G.all,by rw[hll];exact hclen,w2.frame (by rw[hll,w10]) (fun j hj=>hout j (by omega) (by omega) (by omega) (by omega)) hu32,moreDocs_last G.last,G.raw,G.row,hroom,by dsimp only;omega,fun x hx2=>?_,?_,?_,?_,fun k hk=>?_,by show 0≤W.ver+1;omega⟩,w11,qa,hqa,?_,fun j h3 h4=>by rw[hout j (by omega) (by omega) (by omega) (by omega)];exact w9 j (Or.inr (Or.inl ⟨by omega,by omega⟩))⟩
      ·rw[hll]
       rcases moreDocs_mem G.last hx2 with g|rfl
       ·exact G.segs x g
       ·have hb9:SegM.base { live with docs:=live.docs+1 }=live.base:=rfl
        rw[hb9];dsimp only;refine⟨by omega,by omega,by omega,Or.inl (by omega)⟩
      ·show(moreDocs W.segs).length≤4096;obtain⟨k,hk,hk2⟩:=last_ix G.last;rw[←moreDocs_set hk hk2,List.length_set];exact G.nseg
      ·show W.terms+(needsP C.plan (termsP cs t C.plan.slots.toNat toks []) 0 zero6).1=_;rw[hz6,hnd];dsimp only
       omega
      ·show W.terms+(needsP C.plan (termsP cs t C.plan.slots.toNat toks []) 0 zero6).1≤_
       omega
      ·have e1:=w5 k hk;have e2:=w6 k hk;rw[V6.addg]at e2;have e3:=hfit k hk;exact⟨e1,by show u'.g6 k≤_;omega⟩
      ·unfold layL;rw[set_get (by omega),set_get (by omega),List.getElem?_set_self (by rw[List.length_set];omega)]
end
theorem tfindL_lt {cs:List Int}{b id:Int}:∀(n d:Nat),0≤(tfindL cs b id n d).1→(tfindL cs b id n d).2=true→(tfindL cs b id n d).1<((d+n:Nat):Int)
 |0,d,h,_=>by
  have h:(0:Int)≤-1:=h
  omega
 |n+1,d,h,h2=>by
  unfold tfindL at h h2 ⊢
  split
  ·rename_i c1
   rw[if_pos c1]at h2;cases h2
  ·rename_i c1
   rw[if_neg c1]at h h2
   split
   ·show(d:Int)<_;omega
   ·rename_i c2
    rw[if_neg c2]at h h2;have:=tfindL_lt n (d+1) h h2
    omega
theorem rplaceL_at {cs:List Int}{id:Int}:∀(l:List SegM) (i:Nat),(∀x∈l,0≤x.base∧x.base+4*(x.docs:Int)≤(cs.length:Int))→(rplaceL cs id l i).2.2=true→
  ∃(j d:Nat) (x:SegM),l[j]? =some x∧rplaceL cs id l i=(((i+j:Nat):Int),(d:Int),true)∧d<x.docs
 | [],i,_,h=>by cases h
 |x::l,i,hb,h=>by
  obtain⟨x0,x1⟩:=hb x List.mem_cons_self;unfold rplaceL at h ⊢
  by_cases c0:0≤(tfindL cs x.base id x.docs 0).1
  ·rw[if_pos c0];obtain⟨c2,_,_,g3⟩:=findT_both (cs:=cs) (id:=id) x0 x.docs 0 (by omega)
   have:=tfindL_lt x.docs 0 c0 g3;exact⟨0,(tfindL cs x.base id x.docs 0).1.toNat,x,rfl,Prod.ext rfl (Prod.ext (by dsimp only;omega) rfl),by omega⟩
  ·rw[if_neg c0]at h ⊢;obtain⟨j,d,y,h1,h2,h3⟩:=rplaceL_at l (i+1) (fun y hy=>hb y (List.mem_cons_of_mem _ hy)) h;exact⟨j+1,d,y,by simpa using h1,by rw[h2,show i+1+j=i+(j+1) by omega],h3⟩
section
variable {C:ConfM}{P:Pools}{cs:List Int}{W:WrM}{live:SegM}{s:Nat}{t:Tab}{q:Nat→Nat}{hi:Nat}
theorem Good.inb (G:Good C P cs W live s t q hi):∀x∈W.segs,0≤x.base∧x.base+4*(x.docs:Int)≤(cs.length:Int):=fun x hx=>by
 have hb:=plan_base5 C G.ok;have hbk:=G.ok.k0;have h5:C.plan.size.a4=C.book:=rfl;have:=G.segs x hx
 omega
theorem Good.found (G:Good C P cs W live s t q hi){id:Int}(h:(rplaceL cs id W.segs 0).2.2=true):∃(j d qa:Nat) (x:SegM),W.segs[j]? =some x∧rplaceL cs id W.segs 0=((j:Int),(d:Int),true)∧d<x.docs∧x.base+4*(d:Int)+3=(qa:Int)∧qa<cs.length∧3<qa∧
  C.plan.base.a5≤(qa:Int)∧(qa<s∨s+C.plan.slots.toNat≤qa):=by
 obtain⟨j,d,x,h1,h2,h3⟩:=rplaceL_at W.segs 0 G.inb h;rw[Nat.zero_add]at h2;have hx:=G.segs x (List.mem_of_getElem? h1);have hb:=plan_base5 C G.ok;have hbk:=G.ok.k0;have h5:C.plan.size.a4=C.book:=rfl;exact⟨j,d,(x.base+4*(d:Int)+3).toNat,x,h1,h2,h3,by omega,by omega,by omega,by omega,by omega⟩
theorem Good.del (G:Good C P cs W live s t q hi)(id:Int)(hv:W.ver+1≤4294967295):
  ∃W' er cs' c,rdelL ⟨cs,W⟩ id=(er,⟨cs',W'⟩)∧(delT W id).ideal cs=some ((W',er),cs',c)∧c<1048576∧(er≠0→W'=W∧cs'=cs)∧(er=0∨er=7)∧Good C P cs' W' live s t q hi:=by
 obtain⟨c1,p1,p2⟩:=G.place id
 cases hp:(rplaceL cs id W.segs 0).2.2 with
 |false=>
  refine⟨W,7,cs,c1,by unfold rdelL;rw[if_pos hp],?_,by omega,fun _=>⟨rfl,rfl⟩,Or.inr rfl,G⟩
  unfold delT;rw[Tree.ideal_bind,p2,Option.bind_some,if_pos hp]
  simp[Tree.ideal]
 |true=>
  obtain⟨j,d,qa,x,h1,h2,h3,h4,h5,h6,h7,h8⟩:=G.found hp;have hx:=G.segs x (List.mem_of_getElem? h1);have hgd:∀k:Nat,k≤3→0≤x.base+4*(d:Int)+(k:Int)∧x.base+4*(d:Int)+(k:Int)<(cs.length:Int):=fun k hk=>by
   have:=(G.inb x (List.mem_of_getElem? h1)).1
   omega
  have hrow:(rowT x.base (d:Int)).ideal cs=some (⟨cs.getD (x.base+4*(d:Int)+0).toNat 0,cs.getD (x.base+4*(d:Int)+1).toNat 0,cs.getD (x.base+4*(d:Int)+2).toNat 0,cs.getD (x.base+4*(d:Int)+3).toNat 0⟩,cs,4):=by
   have g0:0≤x.base+4*(d:Int)+0∧x.base+4*(d:Int)+0<(cs.length:Int):=hgd 0 (by decide)
   have g1:0≤x.base+4*(d:Int)+1∧x.base+4*(d:Int)+1<(cs.length:Int):=hgd 1 (by decide)
   have g2:0≤x.base+4*(d:Int)+2∧x.base+4*(d:Int)+2<(cs.length:Int):=hgd 2 (by decide)
   have g3:0≤x.base+4*(d:Int)+3∧x.base+4*(d:Int)+3<(cs.length:Int):=hgd 3 (by decide)
   unfold rowT;simp only[Tree.ideal];rw[if_pos g0,if_pos g1,if_pos g2,if_pos g3]
   rfl
  have hR:rdelL ⟨cs,W⟩ id=if cs.getD qa 0≠0 then(7,⟨cs,W⟩)else(0,⟨(cs.set qa (W.ver+1)).set 1 (W.ver+1),{ W with ver:=W.ver+1 }⟩):=by
   unfold rdelL;dsimp only;rw[if_neg (by rw[hp];decide),h2]
   dsimp only;rw[Int.toNat_natCast,h1];dsimp only;rw[h4,Int.toNat_natCast]
  have hT:(delT W id).ideal cs=((if cs.getD qa 0≠0 then Tree.ret (W,7)else Tree.store (x.base+4*(d:Int)+3) (W.ver+1) (.store 1 (W.ver+1) (.ret (({ W with ver:=W.ver+1 }:WrM),(0:Int))))).ideal cs).map fun z=>(z.1,z.2.1,z.2.2+4+c1):=by
   unfold delT;rw[Tree.ideal_bind,p2,Option.bind_some,h2];dsimp only;rw[if_neg (by decide),Int.toNat_natCast,h1]
   dsimp only;rw[Tree.ideal_bind,hrow,Option.bind_some];dsimp only;rw[h4,Int.toNat_natCast];show Option.map _ (Option.map _ ((if false=true∨cs.getD qa 0≠0 then _ else(killT x.base (d:Int) (W.ver+1)).bind _:Tree (WrM×Int)).ideal cs))=_
   unfold killT;rw[h4,Option.map_map]
   by_cases h0:cs.getD qa 0≠0
   ·rw[if_pos h0,if_pos (Or.inr h0)];rfl
   ·rw[if_neg h0,if_neg (by rintro(h|h);cases h;exact h0 h)];rfl
  by_cases h0:cs.getD qa 0=0
  ·have h0':¬cs.getD qa 0≠0:=fun h=>h h0;have hcl:((cs.set qa (W.ver+1)).set 1 (W.ver+1)).length=cs.length:=by simp
   refine⟨{ W with ver:=W.ver+1 },0,(cs.set qa (W.ver+1)).set 1 (W.ver+1),0+1+1+4+c1,by rw[hR,if_neg h0'],?_,by omega,fun h=>absurd rfl h,Or.inl rfl,?_⟩
   ·rw[hT,if_neg h0',store_ideal (i:=qa) h4 h5,store_ideal (a:=1) (i:=1) rfl (by rw[List.length_set];omega)]
    rfl
   ·have hver:=G.ver;have hu:U32 (W.ver+1):=by unfold U32;omega
    have hb:=plan_base5 C G.ok;have hr:=G.dic.rep.book;refine⟨G.ok,G.all,by rw[hcl];exact G.clen,G.dic.frame hcl (fun i hi2=>?_) (set_u32 (set_u32 G.dic.u32 hu _) hu _),G.last,G.raw,G.row,G.room,G.docs,by rw[hcl];exact G.segs,G.nseg,G.terms,G.few,G.used,by show 0≤W.ver+1;omega⟩
    have h9:=lo_ge G.dic.ok;have h10:=G.dic.top;have h11:=G.dic.base;have h12:=G.dic.a4;rw[set_get (by omega),set_get (by omega)]
  ·refine⟨W,7,cs,0+4+c1,by rw[hR,if_pos h0],?_,by omega,fun _=>⟨rfl,rfl⟩,Or.inr rfl,G⟩
   rw[hT,if_pos h0];rfl
end
def ConfM.slabs (c:ConfM):Pools:=⟨fun k=>match k with|0=>3|1=>(3+4*c.s0).toNat|2=>(3+4*c.s0+16*c.s1).toNat|_=>(3+4*c.s0+16*c.s1+64*c.s2).toNat,fun k=>match k with|0=>c.s0.toNat|1=>c.s1.toNat|2=>c.s2.toNat|_=>c.s3.toNat⟩
theorem slabs_ok (c:ConfM)(h:c.ok)(hall:c.all≤65536):c.slabs.ok∧c.plan.lays c.slabs∧c.plan.base.a4=((c.slabs.b 3+256*c.slabs.n 3:Nat):Int):=by
 obtain⟨d0,d1,t0,t1,a0,a1,b0,b1,c0,c1,e0,e1,k0,k1,r0,r1⟩:=h;unfold ConfM.all at hall;refine⟨⟨?_,?_,?_,?_,?_⟩,⟨?_,?_⟩,?_⟩
 all_goals(first|(simp only[ConfM.slabs];omega)|omega|skip)
 ·intro k hk
  rcases k_cases hk with rfl|rfl|rfl|rfl<;>simp only[ConfM.slabs,PlanM.bK,ConfM.plan]<;>omega
 ·intro k hk
  rcases k_cases hk with rfl|rfl|rfl|rfl<;>simp only[ConfM.slabs,sz,PlanM.sK,ConfM.plan]<;>omega
 ·simp only[ConfM.slabs,ConfM.plan];omega
def newW (C:ConfM):WrM:=⟨[⟨C.plan.base.a5,0,false⟩],0,0,⟨0,0,0,0,0,C.plan.live+2⟩⟩
def newC (C:ConfM):List Int:=(((List.replicate C.all.toNat (0:Int)).set (C.plan.base.a5+C.plan.live).toNat 1).set (C.plan.base.a5+C.plan.live+1).toNat C.plan.base.a5).set 2 (C.plan.base.a5+C.plan.live)
theorem Good.new (C:ConfM)(h:C.ok)(hall:C.all≤65000)(hf:¬C.plan.size.a5<C.plan.live+2):
  Good C C.slabs (newC C) (newW C) ⟨C.plan.base.a5,0,false⟩ (C.plan.base.a5+1+4*C.docs).toNat (fun _=>none) (fun _=>0) C.plan.base.a4.toNat:=by
 obtain⟨h1,h2,h3⟩:=slabs_ok C h (by omega)
 obtain⟨b1,b2,b3⟩:=plan_base5 C h;obtain⟨ts1,ts2,ts3⟩:=plan_slots C h;have hd0:=h.d0;have hbk:=h.k0;have h5:C.plan.size.a4=C.book:=rfl;have hlv:C.plan.live=1+4*C.docs+C.plan.slots:=rfl;have hlen:(newC C).length=C.all.toNat:=by unfold newC;simp
 have hget:∀i:Nat,i<C.all.toNat→i≠2→(i:Int)≠C.plan.base.a5+C.plan.live→(i:Int)≠C.plan.base.a5+C.plan.live+1→(newC C)[i]? =some 0:=by
  intro i g1 g2 g3 g4;unfold newC;rw[set_get g2,set_get (by omega),set_get (by omega),List.getElem?_replicate,if_pos g1]
 have hlo:=lo_ge h1;refine⟨h,hall,by rw[hlen];omega,⟨h1,h2,by omega,by omega,⟨by rw[hlen];omega,by omega,by omega,fun i hi _=>?_,fun _ _ _ _ e=>(by cases e),fun _ _ _ _ e=>(by cases e),fun _ _ _ _ e=>(by cases e),fun _ _ _ _ e=>(by cases e)⟩,WF.empty _ _,h3,?_,?_,by omega,fun i g1 g2=>?_,fun _ _ _ _ _ _ _ _ e=>(by cases e),fun _ _ _ _ e=>(by cases e),?_,?_,by rw[hlen];omega⟩,rfl,rfl,?_,Int.le_refl _,?_,?_,(by show 1≤4096;decide),?_,?_,?_,Int.le_refl _⟩
 ·exact hget _ (by omega) (by omega) (by omega) (by omega)
 ·show _=C.plan.base.a4+0;omega
 ·show 0≤(0:Int)∧(0:Int)≤_;omega
 ·exact hget _ (by omega) (by omega) (by omega) (by omega)
 ·intro k hk
  rcases k_cases hk with rfl|rfl|rfl|rfl<;>rfl
 ·unfold newC;have hr:∀y∈List.replicate C.all.toNat (0:Int),U32 y:=fun y hy=>by rw[(List.mem_replicate.1 hy).2];unfold U32;omega
  exact set_u32 (set_u32 (set_u32 hr (by unfold U32;omega) _) (by unfold U32;omega) _) (by unfold U32;omega) _
 ·show C.plan.base.a5+1+4*C.docs=_;omega
 ·show((0:Nat):Int)≤C.docs;omega
 ·intro x hx;have hx:x=⟨C.plan.base.a5,0,false⟩:=by simpa[newW]using hx
  subst hx;have hb9:SegM.base ⟨C.plan.base.a5,0,false⟩=C.plan.base.a5+1:=rfl;rw[hb9,hlen];exact⟨by omega,by dsimp only;omega,(by show 0≤64;decide),Or.inl (by dsimp only;omega)⟩
 ·have:∀n,occ (fun _=>none) n=0:=fun n=>by
   induction n with
   |zero=>rfl
   |succ n ih=>unfold occ;rw[ih];rfl
  rw[this];rfl
 ·show(0:Int)≤C.terms;have:=h.t0;omega
 ·have hs:=(plan_facts h (by omega:C.all≤65536)).g
  intro k hk;have:=hs k hk
  rcases(by omega:k=0∨k=1∨k=2∨k=3∨k=4∨k=5)with rfl|rfl|rfl|rfl|rfl|rfl
  all_goals first|(refine⟨Int.le_refl _,?_⟩;exact this.1)|(show 0≤C.plan.live+2∧C.plan.live+2≤C.plan.size.a5;omega)
structure AS (w W:World)(B:Nat)(st:List Value)(cf:ConfM)(p:PlanM)(dv:List Value):Prop where
 b0:Blk W B st
 b1:Blk W (B+1) cf.list
 b2:Blk W (B+1+1) p.flat
 b3:Blk W (B+1+1+1) dv
 b4:Blk W (B+1+1+1+1) st0
 kp:Keeps (· <B) w W
section
variable {w W W':World}{B:Nat}{st dv:List Value}{cf:ConfM}{p:PlanM}
theorem AS.keep (h:AS w W B st cf p dv){K:Nat→Prop}(k:Keeps K W W')(hk:∀b,b≤B+1+1+1+1→K b):AS w W' B st cf p dv:=
 ⟨h.b0.keep k (hk _ (by omega)),h.b1.keep k (hk _ (by omega)),h.b2.keep k (hk _ (by omega)),h.b3.keep k (hk _ (by omega)),h.b4.keep k (hk _ (by omega)),h.kp.trans (k.mono fun b hb=>hk b (by have hb:b<B:=hb;omega))⟩
theorem AS.calls (h:AS w W B st cf p dv)(k:Keeps (· <W.heap.size) W W'):AS w W' B st cf p dv:=h.keep k fun b hb=>by have:=h.b4.lt;show b<W.heap.size;omega
theorem SlAt.of_blk9 {w:World}{b n:Nat}{xs:List Value}(h:Blk w b xs)(hl:xs.length=n)(hm:n≤65536):SlAt w (fun c=>c=b) 1 (.slice (some ⟨b,0,none⟩) n n) n xs:=
 ⟨_,_,rfl,Nat.le_refl _,by unfold maxLen;omega,by rw[hl];omega,fun _=>⟨b,0,rfl,rfl,fun j v hv=>by rw[Nat.zero_add,h.cell];exact hv⟩⟩
theorem AS.alloc (h:AS w W B st cf p dv)(bl:Obj):AS w (W.alloc bl) B st cf p dv:=h.calls ((Keeps.refl _ _).alloc (fun b hb=>hb) bl)
def LkAt (cs:List Int)(s0 n:Nat)(y:TermM):Prop:=
 y.recd=(findL cs (s0:Int) n (homeD n (bsL y.key)) y.key n 0).1∧(y.key.size≤900∧(0≤y.cnt∧y.cnt≤64))∧(y.recd≠0→∃rc tl:Nat,y.recd=(rc:Int)∧rc≠0∧cs[rc]? =some (tl:Int)∧y.tl=(tl:Int)∧tl≤65536)∧(y.recd=0→y.tl=0)
end
set_option maxRecDepth 100000 in
set_option maxHeartbeats 4000000 in
theorem radd_long (cs:List Int)(segs:List SegM)(wt wv u0 u1 u2 u3 u4 u5:Int)(cf:ConfM)(p:PlanM)(live:SegM)(id:Int)(fs:List ByteArray)(FA:Option Addr)(fc:Nat)(A:Option Addr)(cp:Nat)(A2:Option Addr)(cp2:Nat)(w:World)(K:Nat→Prop)(hb:∀b,K b→b<w.heap.size)
  (hsl:SlAt w K 1 (.slice A cs.length cp) cs.length (cs.map (Value.int .u32))) (hn0:0<cs.length) (hcn:cs.length≤65536) (hs2:SlAt w K 3 (.slice A2 segs.length cp2) segs.length (segs.flatMap SegM.cells)) (hlive:segs.getLast?=some live) (hn:segs.length≤65536)
  (hok:∀x∈segs,(-1099511627700≤x.addr∧x.addr≤1099511627700)∧x.docs≤65536) (hfl:SlAt w K 1 (.slice FA fs.length fc) fs.length (fs.map Value.string)) (hfn:fs.length≤1000000) (hcf:cf.ok)
  (htk:toksM fs=none):
  Z 38 #[.agg #[.slice A cs.length cp,.slice A2 segs.length cp2,I wt,J wv,I u0,I u1,I u2,I u3,I u4,I u5],.agg cf.list.toArray,p.val,.agg #[J id,.slice FA fs.length fc]] w fun e w'=>
   e= .returned (.tuple #[I 4,.agg #[.slice A cs.length cp,.slice A2 segs.length cp2,I wt,J wv,I u0,I u1,I u2,I u3,I u4,I u5]])∧Keeps (· <w.heap.size) w w':=by
 have zz12:=PLift.up @c180;exact c179
set_option maxRecDepth 100000 in
set_option maxHeartbeats 4000000 in
theorem radd_dup (cs:List Int)(segs:List SegM)(wt wv u0 u1 u2 u3 u4 u5:Int)(cf:ConfM)(p:PlanM)(live:SegM)(id:Int)(fs:List ByteArray)(FA:Option Addr)(fc:Nat)(A:Option Addr)(cp:Nat)(A2:Option Addr)(cp2:Nat)(w:World)(K:Nat→Prop)(hb:∀b,K b→b<w.heap.size)
  (hsl:SlAt w K 1 (.slice A cs.length cp) cs.length (cs.map (Value.int .u32))) (hn0:0<cs.length) (hcn:cs.length≤65536) (hs2:SlAt w K 3 (.slice A2 segs.length cp2) segs.length (segs.flatMap SegM.cells)) (hlive:segs.getLast?=some live) (hn:segs.length≤65536)
  (hok:∀x∈segs,(-1099511627700≤x.addr∧x.addr≤1099511627700)∧x.docs≤65536) (hfl:SlAt w K 1 (.slice FA fs.length fc) fs.length (fs.map Value.string)) (hfn:fs.length≤1000000) (hcf:cf.ok)
  {toks:List TokI} (htk:toksM fs=some toks) {pi pd:Int} (hq:rplaceL cs id segs 0=(pi,pd,true)):
  Z 38 #[.agg #[.slice A cs.length cp,.slice A2 segs.length cp2,I wt,J wv,I u0,I u1,I u2,I u3,I u4,I u5],.agg cf.list.toArray,p.val,.agg #[J id,.slice FA fs.length fc]] w fun e w'=>
   e= .returned (.tuple #[I 6,.agg #[.slice A cs.length cp,.slice A2 segs.length cp2,I wt,J wv,I u0,I u1,I u2,I u3,I u4,I u5]])∧Keeps (· <w.heap.size) w w':=by
 have zz12:=PLift.up @c181;exact c179
set_option maxRecDepth 100000 in
set_option maxHeartbeats 4000000 in
theorem radd_seg (cs:List Int)(segs:List SegM)(wt wv u0 u1 u2 u3 u4 u5:Int)(cf:ConfM)(p:PlanM)(live:SegM)(id:Int)(fs:List ByteArray)(FA:Option Addr)(fc:Nat)(A:Option Addr)(cp:Nat)(A2:Option Addr)(cp2:Nat)(w:World)(K:Nat→Prop)(hb:∀b,K b→b<w.heap.size)
  (hsl:SlAt w K 1 (.slice A cs.length cp) cs.length (cs.map (Value.int .u32))) (hn0:0<cs.length) (hcn:cs.length≤65536) (hs2:SlAt w K 3 (.slice A2 segs.length cp2) segs.length (segs.flatMap SegM.cells)) (hlive:segs.getLast?=some live) (hn:segs.length≤65536)
  (hok:∀x∈segs,(-1099511627700≤x.addr∧x.addr≤1099511627700)∧x.docs≤65536) (hfl:SlAt w K 1 (.slice FA fs.length fc) fs.length (fs.map Value.string)) (hfn:fs.length≤1000000) (hcf:cf.ok)
  {toks:List TokI} (htk:toksM fs=some toks) {pi pd:Int} (hq:rplaceL cs id segs 0=(pi,pd,false)) (hx:cf.docs≤(live.docs:Int)):
  Z 38 #[.agg #[.slice A cs.length cp,.slice A2 segs.length cp2,I wt,J wv,I u0,I u1,I u2,I u3,I u4,I u5],.agg cf.list.toArray,p.val,.agg #[J id,.slice FA fs.length fc]] w fun e w'=>
   e= .returned (.tuple #[I 5,.agg #[.slice A cs.length cp,.slice A2 segs.length cp2,I wt,J wv,I u0,I u1,I u2,I u3,I u4,I u5]])∧Keeps (· <w.heap.size) w w':=by
 have zz79:=PLift.up @c462;exact c461
def addR (cf:ConfM)(W:WrM)(live:SegM)(id:Int)(fs:List ByteArray)(s:St):(WrM×Int)×St:=match toksM fs with
 |none=>((W,4),s)
 |some toks=>(addT cf W live id toks).exec s
theorem addT_exec (cf:ConfM)(W:WrM)(live:SegM)(id:Int)(toks:List TokI)(s:St):(addT cf W live id toks).exec s=
  if((placeT id W.segs 0).exec s).1.2.2=true then((W,6),((placeT id W.segs 0).exec s).2)else
  if((placeT id W.segs 0).exec s).2.isOff=true∨cf.docs≤(live.docs:Int)then((W,5),((placeT id W.segs 0).exec s).2)else
  ((termsT (live.base+4*cf.docs) cf.plan.slots.toNat toks []).bind fun all=>
   .off fun o2=>if o2=true then .ret (W,0)else
   if cf.terms-W.terms<(needsP cf.plan all 0 zero6).1 then .ret (W,5)else
   if fitsP cf.plan W.used (needsP cf.plan all 0 zero6).2=false then .ret (W,3)else
   (wordsT cf.plan (live.base+4*cf.docs) cf.plan.slots.toNat live.docs toks all W.used).bind fun y=>
   (layT live.base live.docs id toks.length (W.ver+1)).bind fun _=>
   .store 1 (W.ver+1) (.ret ((⟨moreDocs W.segs,W.terms+(needsP cf.plan all 0 zero6).1,W.ver+1,y.2⟩,0):WrM×Int))).exec ((placeT id W.segs 0).exec s).2:=by
 unfold addT;rw[Tree.exec_bind]
 split
 ·rfl
 ·show(if _ then _ else _:Tree (WrM×Int)).exec _=_
  split<;>rfl
theorem moreDocs_len {l:List SegM}{x:SegM}(h:l.getLast?=some x):(moreDocs l).length=l.length:=by
 obtain⟨k,hk,hx⟩:=last_ix h;rw[←moreDocs_set hk hx,List.length_set]
theorem write_add {w:World}{K:Nat→Prop}{r m c:Nat}{s:St}(h:RM w K r m c s)(hK0:K 0)(hT:PTab w)(hF:FoldTab w)(cf:ConfM)(hcf:cf.ok∧cf.all≤65536)(W:WrM)(live:SegM)(A:Option Addr)(cp:Nat)(id:Int)(fs:List ByteArray)(FA:Option Addr)(fc:Nat)
  (hlive:W.segs.getLast?=some live) {Ks:Nat→Prop} (hKs:∀b,Ks b→K b) (hsl0:SlAt w Ks 3 (.slice A W.segs.length cp) W.segs.length (W.segs.flatMap SegM.cells)) (hfl:SlAt w K 1 (.slice FA fs.length fc) fs.length (fs.map Value.string)) (hfn:fs.length≤1000000)
  (hok:∀x∈W.segs,(-1099511627700≤x.addr∧x.addr≤1099511627700)∧x.docs≤65536) (hn:W.segs.length≤65536) (hi:U32 id) (hv:0≤W.ver∧W.ver≤4294967294) (hu:UIn cf.plan W.used) (htm:0≤W.terms∧W.terms≤65536) (hlb:0≤live.base∧live.base≤65000):
  Z 36 #[.pointer (some ⟨r,0,none⟩),.agg cf.list.toArray,.agg (W.vals (.slice A W.segs.length cp)).toArray,.agg #[J id,.slice FA fs.length fc]] w fun e w'=>
   ∃v K',(∀b,K b→K' b)∧e= .returned (.tuple #[.agg ((addR cf W live id fs s).1.1.vals v).toArray,I (addR cf W live id fs s).1.2])∧SlAt w' (fun b=>Ks b∨(K' b∧w.heap.size≤b)) 3 v (addR cf W live id fs s).1.1.segs.length ((addR cf W live id fs s).1.1.segs.flatMap SegM.cells)∧
    RM w' K' r m c (addR cf W live id fs s).2∧Keeps K w w':=by
 have hsl:=hsl0.mono hKs;have same:∀{er:Int} {st:St} {e:Ending} {w':World},addR cf W live id fs s=((W,er),st)→((e= .returned (.tuple #[.agg (W.vals (.slice A W.segs.length cp)).toArray,I er])∧RM w' K r m c st)∧Keeps K w w')→
   ∃v K',(∀b,K b→K' b)∧e= .returned (.tuple #[.agg ((addR cf W live id fs s).1.1.vals v).toArray,I (addR cf W live id fs s).1.2])∧SlAt w' (fun b=>Ks b∨(K' b∧w.heap.size≤b)) 3 v (addR cf W live id fs s).1.1.segs.length ((addR cf W live id fs s).1.1.segs.flatMap SegM.cells)∧
    RM w' K' r m c (addR cf W live id fs s).2∧Keeps K w w':=fun he ⟨⟨h1,h2⟩,h3⟩=>by
  rw[he];exact⟨_,K,fun b hb=>hb,h1,(hsl0.keep h3 hKs).mono fun b hb=>Or.inl hb,h2,h3⟩
 cases htk:toksM fs with
 |none=>exact(add_long h hK0 hT hF cf hcf W live A cp id fs FA fc hlive hsl hfl hfn hok hn hi hv hu htm hlb htk).mono fun e w' H=>same (by unfold addR;rw[htk]) H
 |some toks=>
  have hR:addR cf W live id fs s=(addT cf W live id toks).exec s:=by unfold addR;rw[htk]
  rw[addT_exec]at hR
  cases hq:(placeT id W.segs 0).exec s with
  |mk q sp=>
  obtain⟨pi,pd,pb⟩:=q;rw[hq]at hR;dsimp only at hR
  cases pb with
  |true=>exact(add_dup h hK0 hT hF cf hcf W live A cp id fs FA fc hlive hsl hfl hfn hok hn hi hv hu htm hlb htk hq).mono fun e w' H=>same (by rw[hR,if_pos rfl]) H
  |false=>
   rw[if_neg (by decide)]at hR
   by_cases hx:sp.isOff=true∨cf.docs≤(live.docs:Int)
   ·exact(add_seg h hK0 hT hF cf hcf W live A cp id fs FA fc hlive hsl hfl hfn hok hn hi hv hu htm hlb htk hq hx).mono fun e w' H=>same (by rw[hR,if_pos hx]) H
   ·rw[if_neg hx,Tree.exec_bind]at hR;have ho1:sp.isOff=false:=by
     cases ho:sp.isOff with
     |false=>rfl
     |true=>exact absurd (Or.inl ho) hx
    have hx2:¬cf.docs≤(live.docs:Int):=fun h=>hx (Or.inr h)
    cases hy:(termsT (live.base+4*cf.docs) cf.plan.slots.toNat toks []).exec sp with
    |mk all sy=>
    rw[hy]at hR
    cases hnd:needsP cf.plan all 0 zero6 with
    |mk fr mo=>
    obtain⟨m0,m1,m2,m3,m4,m5⟩:=mo;dsimp only at hR;rw[hnd]at hR;dsimp only at hR;change _=(if sy.isOff=true then .ret (W,0)else if cf.terms-W.terms<fr then .ret (W,5)else if fitsP cf.plan W.used ⟨m0,m1,m2,m3,m4,m5⟩=false then .ret (W,3)else
     (wordsT cf.plan (live.base+4*cf.docs) cf.plan.slots.toNat live.docs toks all W.used).bind fun y=>
     (layT live.base live.docs id toks.length (W.ver+1)).bind fun _=>
     .store 1 (W.ver+1) (.ret ((⟨moreDocs W.segs,W.terms+fr,W.ver+1,y.2⟩,0):WrM×Int)):Tree (WrM×Int)).exec sy at hR
    cases ho2:sy.isOff with
    |true=>exact(add_off h hK0 hT hF cf hcf W live A cp id fs FA fc hlive hsl hfl hfn hok hn hi hv hu htm hlb htk hq ho1 hx2 hy hnd ho2).mono fun e w' H=>same (by rw[hR,if_pos ho2];rfl) H
    |false=>
     rw[if_neg (by rw[ho2];decide)]at hR
     by_cases hfr:cf.terms-W.terms<fr
     ·exact(add_terms h hK0 hT hF cf hcf W live A cp id fs FA fc hlive hsl hfl hfn hok hn hi hv hu htm hlb htk hq ho1 hx2 hy hnd ho2 hfr).mono fun e w' H=>same (by rw[hR,if_pos hfr];rfl) H
     ·rw[if_neg hfr]at hR
      cases hfi:fitsP cf.plan W.used ⟨m0,m1,m2,m3,m4,m5⟩with
      |false=>exact(add_full h hK0 hT hF cf hcf W live A cp id fs FA fc hlive hsl hfl hfn hok hn hi hv hu htm hlb htk hq ho1 hx2 hy hnd ho2 hfr hfi).mono fun e w' H=>same (by rw[hR,if_pos hfi];rfl) H
      |true=>
       rw[if_neg (by rw[hfi];decide),Tree.exec_bind]at hR
       cases hwd:(wordsT cf.plan (live.base+4*cf.docs) cf.plan.slots.toNat live.docs toks all W.used).exec sy with
       |mk qa sz=>
       obtain⟨all',u'⟩:=qa;rw[hwd]at hR;dsimp only at hR;rw[Tree.exec_bind]at hR;have hR:addR cf W live id fs s=((⟨moreDocs W.segs,W.terms+fr,W.ver+1,u'⟩,0),(((layT live.base live.docs id toks.length (W.ver+1)).exec sz).2.store 1 (W.ver+1))):=hR;refine(add_good h hK0 hT hF cf hcf W live A cp id fs FA fc hlive hsl hfl hfn hok hn hi hv hu htm hlb htk hq ho1 hx2 hy hnd ho2 hfr hfi hwd).mono ?_
       rintro e w' ⟨⟨v,K',h1,h2,h3,h4⟩,h5⟩;rw[hR];exact⟨v,K',h1,h2,by dsimp only;rw[moreDocs_len hlive];exact h3.mono fun b hb=>Or.inr hb,h4,h5⟩
set_option maxRecDepth 100000 in
set_option maxHeartbeats 4000000 in
theorem Tryz.eqArr6 (a b c d e f:Int)(w:World):(Op.equalIn 10000 40 (.agg #[I a,I b,I c,I d,I e,I f]) (.agg #[I a,I b,I c,I d,I e,I f])).run Tryz.prog w= .ok true w:=by
 have u3:=Tryz.underlying3;have a3:=Tryz.isAgg3;have z3:=Tryz.sizeOf3;rw[show(10000:Nat)=9999+1 from rfl,Op.equalIn]
 simp only[Sem.run_bind,run_underlying Tryz.underlying40,Result.andThen_ok];simp only[Std.Legacy.Range.forIn_eq_forIn_range',Std.Legacy.Range.size,Nat.sub_zero,Nat.add_sub_cancel,Nat.div_one,List.range'_succ,List.range'_zero,List.forIn_cons,List.forIn_nil]
 go_simp
set_option maxRecDepth 100000 in
set_option maxHeartbeats 4000000 in
theorem ref12_same (segs:List SegM)(wt wv u0 u1 u2 u3 u4 u5:Int)(A:Option Addr)(cp:Nat)(A2:Option Addr)(cp2:Nat)(w:World)(K:Nat→Prop)(hb:∀b,K b→b<w.heap.size)
  (h1:SlAt w K 3 (.slice A segs.length cp) segs.length (segs.flatMap SegM.cells)) (h2:SlAt w K 3 (.slice A2 segs.length cp2) segs.length (segs.flatMap SegM.cells)) (hn:segs.length≤65536):
  Z 27 #[.agg #[.slice A segs.length cp,I wt,J wv,I u0,I u1,I u2,I u3,I u4,I u5],.agg #[.slice A2 segs.length cp2,I wt,J wv,I u0,I u1,I u2,I u3,I u4,I u5]] w fun e w'=>
   e= .returned (.bool true)∧Keeps (· <w.heap.size) w w':=by
 have hka:Keeps (· <w.heap.size) w ((w.alloc (.cells #[.slice A segs.length cp,I wt,J wv,I u0,I u1,I u2,I u3,I u4,I u5] 46)).alloc (.cells #[.slice A2 segs.length cp2,I wt,J wv,I u0,I u1,I u2,I u3,I u4,I u5] 46)):=by
  exact kA
 have hA:=(Blk.new w [.slice A segs.length cp,I wt,J wv,I u0,I u1,I u2,I u3,I u4,I u5] 46).alloc (.cells #[.slice A2 segs.length cp2,I wt,J wv,I u0,I u1,I u2,I u3,I u4,I u5] 46);have hB:=Blk.new (w.alloc (.cells #[.slice A segs.length cp,I wt,J wv,I u0,I u1,I u2,I u3,I u4,I u5] 46)) [.slice A2 segs.length cp2,I wt,J wv,I u0,I u1,I u2,I u3,I u4,I u5] 46;rw[World.size_alloc]at hB
 have Hb:=hid hb;have H1:=hid h1;have H2:=hid h2;have Hka:=hid hka;have HA:=hid hA;have HB:=hid hB;clear hb h1 h2 hka hA hB;refine calls_hide fun R' hR'=>?_
 go_enter Tryz.func27,Tryz.ntmps27
 go_upto_region 1 with fail
 refine wp_gen (fun W=>Blk W w.heap.size [.slice A segs.length cp,I wt,J wv,I u0,I u1,I u2,I u3,I u4,I u5]∧Blk W (w.heap.size+1) [.slice A2 segs.length cp2,I wt,J wv,I u0,I u1,I u2,I u3,I u4,I u5]∧Keeps (· <w.heap.size) w W) ⟨HA.out,HB.out,Hka.out⟩ (fun W1 HW=>?_);obtain⟨hA1,hB1,hk1⟩:=HW;clear HA HB Hka;obtain⟨y0,y1,y2,y3,y4,y5,y6,y7,y8⟩:=hA1.c9;obtain⟨z0,z1,z2,z3,z4,z5,z6,z7,z8⟩:=hB1.c9
 have heq:=fun W=>Tryz.eqArr6 u0 u1 u2 u3 u4 u5 W
 go_wp2_with fail
 clear y1 y2 y3 y4 y5 y6 y7 y8 z1 z2 z3 z4 z5 z6 z7 z8;generalize hBB:w.heap.size=B at*
 go_loopw[5,37] (fun _ iv wx=>∃(i:Nat),iv=I (i:Int)∧i≤segs.length∧Hid (Blk wx B [.slice A segs.length cp,I wt,J wv,I u0,I u1,I u2,I u3,I u4,I u5])∧Hid (Blk wx (B+1) [.slice A2 segs.length cp2,I wt,J wv,I u0,I u1,I u2,I u3,I u4,I u5])∧Hid (Keeps (· <B) w wx)) (fun _ iv _=>segs.length-(intOf iv).toNat)
 case atStart=>exact⟨0,rfl,Nat.zero_le _,hid hA1,hid hB1,hid hk1⟩
 case round=>
  clear hA1 hB1 hk1 y0 z0;obtain⟨i,rfl,hile,HA,HB,HK⟩:=hrel
  by_cases hil:i<segs.length
  ·have hilI:(i:Int)<(segs.length:Int):=by omega
   obtain⟨x,hx⟩:∃x,segs[i]? =some x:=⟨_,List.getElem?_eq_getElem hil⟩;obtain⟨b0,o0,rfl,hkb,g1⟩:=SlAt.rec (SegM.len3 segs) H1.out i x hx;obtain⟨b2,o2,rfl,hkb2,g2⟩:=SlAt.rec (SegM.len3 segs) H2.out i x hx;have hh0:=Hb.out _ hkb;have hh2:=Hb.out _ hkb2;have zz50:=PLift.up @c309;exact c307
  ·obtain rfl:i=segs.length:=by omega
   have hilI:¬(segs.length:Int)<(segs.length:Int):=by omega
   exact c106
end Go.Proofs.YtogdknnkhkjmcaaGreatDoor
