/- Plain laws for Write: all of a document's words; its terms at first; finding a row. -/
import Derived.Test.YtogdknnkhkjmcaaGreatDoorGoodF
namespace Go.Proofs.YtogdknnkhkjmcaaGreatDoor
open Go.RowKit
set_option linter.all false
def WordsTo (p:PlanM)(s n:Nat)(d:Int):List TokI→List Int→V6→List Int→V6→Prop
 | [],cs,u,cs',u'=>cs'=cs∧u'=u
 |x::l,cs,u,cs',u'=>(∀y∈cs,U32 y)∧∃cs1 rc u1 tl cs2 t2 u2,RecTo p cs u s n (keyB x.1 x.2.1) cs1 rc u1∧cs1[rc]? =some ((tl:Nat):Int)∧tl<cs.length∧PutsTo p cs1 u1 tl (wordOf d x.2.2) cs2 t2 u2∧WordsTo p s n d l (cs2.set rc (t2:Int)) u2 cs' u'
theorem WordsTo.len {p:PlanM}{s n:Nat}{d:Int}:∀{l:List TokI} {cs cs':List Int} {u u':V6},WordsTo p s n d l cs u cs' u'→cs'.length=cs.length
 | [],_,_,_,_,h=>by rw[h.1]
 |x::l,_,_,_,_,h=>by
  obtain⟨_,cs1,rc,u1,tl,cs2,t2,u2,h1,_,_,h4,h5⟩:=h;rw[h5.len,List.length_set,h4.len.1,h1.len.1]
theorem freshN_zero {l:List TokI}:∀{all:List TermM},(∀y∈all,y.recd=0→1≤cntK y.key ([]:List TokI))→freshN all=0
 | [],_=>rfl
 |y::r,h=>by
  show(if y.recd=0 then 1 else 0)+freshN r=0
  rw[freshN_zero (l:=l) fun z hz=>h z (List.mem_cons_of_mem _ hz)]
  split
  ·rename_i h0
   have:=h y List.mem_cons_self h0;exact absurd this (by show¬1≤0;omega)
  ·rfl
theorem words_all {p:PlanM}{P:Pools}{s n:Nat}(d:Int):∀(l:List TokI) {cs:List Int} {u:V6} {t:Tab} {q:Nat→Nat} {hi:Nat} {all:List TermM},DicAt p P s n cs u t q hi→TermsAt cs t n all l→occ t n+freshN all<n→
  (∀k,k<6→(u.add (sumN p l all)).g6 k≤p.size.g6 k)→(∀k,k<6→0≤u.g6 k)→
  ∃cs' u' t' q' hi' all',WordsTo p s n d l cs u cs' u'∧DicAt p P s n cs' u' t' q' hi'∧occ t' n=occ t n+freshN all∧u'.a5=u.a5∧(∀k,k<6→0≤u'.g6 k)∧(∀k,k<6→u'.g6 k≤(u.add (sumN p l all)).g6 k)∧
   (∃c,c≤l.length*(n*7+20)∧(wordsT p (s:Int) n d l all u).ideal cs=some ((all',u'),cs',c))∧
   (∀j:Nat,j<3∨(p.base.a4+p.size.a4≤(j:Int)∧j<s)∨s+n≤j→cs'[j]? =cs[j]?)∧cs'.length=cs.length
 | [],cs,u,t,q,hi,all,D,T,ho,hf,hu=>by
  have h0:=freshN_zero (l:=[]) T.cnt;refine⟨cs,u,t,q,hi,all,⟨rfl,rfl⟩,D,by omega,rfl,hu,fun k hk=>?_,⟨0,Nat.zero_le _,rfl⟩,fun _ _=>rfl,rfl⟩
  rw[V6.addg];have hnn:∀z∈all,∀k,k<6→0≤(ndT p z (cntK z.key [])).g6 k:=by
   intro z hz k hk;obtain⟨e1,e2⟩:=T.look z hz;have hr:z.recd≠0:=fun h=>by have h9:=T.cnt z hz h;exact absurd h9 (by show¬1≤0;omega)
   have htl:∃(tl:Nat) (v:Option (Nat×Nat×Nat)),z.tl=(tl:Int)∧TailIs P q tl v:=by
    by_cases h0:(probe t n (homeD n (bsL z.key)) (bsL z.key) n 0).1=0
    ·refine⟨0,none,?_,Or.inl ⟨rfl,rfl⟩⟩;rw[e2];unfold lookP;rw[if_pos h0];rfl
    ·obtain⟨j,a,hj,hta,hx,_⟩:=probe_sound (x:=(probe t n (homeD n (bsL z.key)) (bsL z.key) n 0).1) (y:=(probe t n (homeD n (bsL z.key)) (bsL z.key) n 0).2) rfl h0 D.n0;obtain⟨tl,v,g1,g2⟩:=D.tails _ _ _ hj hta;refine⟨tl,v,?_,g2⟩;rw[e2];unfold lookP;rw[if_neg h0,hx,Int.toNat_natCast];exact(getD_of g1).2
   obtain⟨tl,v,h1,h2⟩:=htl;unfold ndT;rw[V6.addg,h1,if_neg hr];have a1:=h2.pos D.ok D.lays (cntK z.key []) k hk;have a2:0≤zerosN.g6 k:=by unfold zerosN V6.g6;split<;>decide
   omega
  have:=(sumN_mem hnn).1 k hk
  omega
 |x::l,cs,u,t,q,hi,all,D,T,ho,hf,hu=>by
  obtain⟨cs1,rc,u1,tl,cs2,t2,u2,t',q',hi',all',h1,h2,h3,h4,h5,h6,h7,h8,h9,h10,⟨c1,h11,h12⟩,h13,h14⟩:=word_step D T ho hf hu d;have hu2:∀k,k<6→0≤u2.g6 k:=fun k hk=>Int.le_trans (hu k hk) (h10 k hk);obtain⟨cs',u',t'',q'',hi'',all'',g1,g2,g3,g4,g5,g6,⟨c2,g7,g8⟩,g9,g10⟩:=words_all d l h5 h6 (by omega) (fun k hk=>by rw[h8];exact hf k hk) hu2
  refine⟨cs',u',t'',q'',hi'',all'',⟨D.u32,cs1,rc,u1,tl,cs2,t2,u2,h1,h2,h3,h4,g1⟩,g2,by omega,by rw[g4,h9],g5,fun k hk=>by rw[←h8];exact g6 k hk,⟨c2+c1,?_,?_⟩,fun j hj=>by rw[g9 j hj,h13 j hj],by rw[g10,h14]⟩
  ·have:(x::l).length*(n*7+20)=l.length*(n*7+20)+(n*7+20):=Nat.succ_mul _ _
   omega
  ·show((wordT p (s:Int) n d x all u).bind fun y=>wordsT p (s:Int) n d l y.1 y.2).ideal cs=_;rw[Tree.ideal_bind,h12];simp only[Option.bind_some,g8,Option.map_some]
theorem cntK_app (k:ByteArray)(x:TokI):∀(l:List TokI),cntK k (l++[x])=cntK k l+(if keyB x.1 x.2.1=k then 1 else 0)
 | []=>by show(if keyB x.1 x.2.1=k then 1 else 0)+0=0+_;omega
 |y::l=>by
  show(if keyB y.1 y.2.1=k then 1 else 0)+cntK k (l++[x])=((if keyB y.1 y.2.1=k then 1 else 0)+cntK k l)+_
  rw[cntK_app k x l];omega
theorem cntK_zero {k:ByteArray}:∀{l:List TokI},(∀x∈l,keyB x.1 x.2.1≠k)→cntK k l=0
 | [],_=>rfl
 |y::l,h=>by
  show(if keyB y.1 y.2.1=k then 1 else 0)+cntK k l=0
  rw[if_neg (h y List.mem_cons_self),cntK_zero fun x hx=>h x (List.mem_cons_of_mem _ hx)]
theorem cntK_pos {k:ByteArray}:∀{l:List TokI},(∃x∈l,keyB x.1 x.2.1=k)→1≤cntK k l
 | [],h=>by obtain⟨x,hx,_⟩:=h;cases hx
 |y::l,h=>by
  show 1≤(if keyB y.1 y.2.1=k then 1 else 0)+cntK k l
  obtain⟨x,hx,hk⟩:=h
  rcases List.mem_cons.1 hx with rfl|hx
  ·rw[if_pos hk];omega
  ·have:=cntK_pos ⟨x,hx,hk⟩
   omega
structure TI (pre:List TokI)(out:List TermM):Prop where
 uniq:(out.map TermM.key).Nodup
 cnt:∀y∈out,y.cnt=(cntK y.key pre:Int)
 has:∀x∈pre,keyB x.1 x.2.1∈out.map TermM.key
 src:∀k∈out.map TermM.key,∃x∈pre,keyB x.1 x.2.1=k
theorem map_uniq {α β:Type}{f:α→β}{l:List α}(h:(l.map f).Nodup){i j:Nat}{y z:α}(h1:l[i]? =some y)(h2:l[j]? =some z)(e:f y=f z):i=j:=by
 obtain⟨a1,rfl⟩:=List.getElem?_eq_some_iff.1 h1;obtain⟨a2,rfl⟩:=List.getElem?_eq_some_iff.1 h2;have hp:=List.pairwise_iff_getElem.1 h
 rcases Nat.lt_trichotomy i j with c|c|c
 ·exact absurd (by rw[List.getElem_map,List.getElem_map];exact e) (hp i j (by simpa using a1) (by simpa using a2) c)
 ·exact c
 ·exact absurd (by rw[List.getElem_map,List.getElem_map];exact e.symm) (hp j i (by simpa using a2) (by simpa using a1) c)
theorem termsP_ti (cs:List Int)(t:Tab)(n:Nat):∀(l pre:List TokI) (out:List TermM),TI pre out→TI (pre++l) (termsP cs t n l out)
 | [],pre,out,h=>by rw[List.append_nil];exact h
 |x::l,pre,out,h=>by
  rw[show pre++x::l=(pre++[x])++l by simp]
  unfold termsP
  cases he:out[keyIx (keyB x.1 x.2.1) out]? with
  |some y=>
   have hk:=keyIx_key he;obtain⟨hl,hg⟩:=List.getElem?_eq_some_iff.1 he;have hmap:(out.set (keyIx (keyB x.1 x.2.1) out) { y with cnt:=y.cnt+1 }).map TermM.key=out.map TermM.key:=by
    rw[List.map_set];dsimp only;have:y.key=(out.map TermM.key)[keyIx (keyB x.1 x.2.1) out]'(by simpa using hl):=by simp[hg]
    rw[this,List.set_getElem_self]
   refine termsP_ti cs t n l _ _ ⟨by rw[hmap];exact h.uniq,fun z hz=>?_,fun z hz=>?_,fun k hk2=>?_⟩
   ·obtain⟨j,hj⟩:=List.mem_iff_getElem?.1 hz;rw[cntK_app]
    by_cases c1:keyIx (keyB x.1 x.2.1) out=j
    ·subst c1;rw[List.getElem?_set_self hl]at hj;injection hj with hj;subst hj
     dsimp only;rw[if_pos hk.symm,h.cnt y (List.mem_of_getElem? he)]
     omega
    ·rw[List.getElem?_set_ne c1]at hj;have hne:keyB x.1 x.2.1≠z.key:=fun e=>c1 (map_uniq h.uniq he hj (by rw[hk,e]))
     rw[if_neg hne,h.cnt z (List.mem_of_getElem? hj)];rfl
   ·rw[hmap]
    rcases List.mem_append.1 hz with g|g
    ·exact h.has z g
    ·rw[List.mem_singleton.1 g,←hk];exact List.mem_map.2 ⟨y,List.mem_of_getElem? he,rfl⟩
   ·rw[hmap]at hk2;obtain⟨z,hz,e⟩:=h.src k hk2;exact⟨z,List.mem_append.2 (Or.inl hz),e⟩
  |none=>
   have hno:∀y∈out,y.key≠keyB x.1 x.2.1:=fun y hy e=>by
    obtain⟨t0,ht0⟩:=hasK.ix ⟨y,hy,e⟩;rw[he]at ht0;cases ht0
   have hlk:=lookP_key cs t n (keyB x.1 x.2.1);refine termsP_ti cs t n l _ _ ⟨?_,fun z hz=>?_,fun z hz=>?_,fun k hk2=>?_⟩
   ·rw[List.map_append];refine List.nodup_append.2 ⟨h.uniq,by simp,fun a ha b hb=>?_⟩
    simp only[List.map_cons,List.map_nil,List.mem_singleton,hlk.1]at hb;subst hb;obtain⟨y,hy,rfl⟩:=List.mem_map.1 ha;exact hno y hy
   ·rw[cntK_app]
    rcases List.mem_append.1 hz with g|g
    ·rw[if_neg (fun e=>hno z g e.symm),h.cnt z g];rfl
    ·rw[List.mem_singleton.1 g,hlk.1,hlk.2,if_pos rfl,cntK_zero fun y hy e=>by
      obtain⟨w,hw,e2⟩:=List.mem_map.1 (h.has y hy);exact hno w hw (by rw[e2,e])]
     rfl
   ·rw[List.map_append]
    rcases List.mem_append.1 hz with g|g
    ·exact List.mem_append.2 (Or.inl (h.has z g))
    ·rw[List.mem_singleton.1 g];exact List.mem_append.2 (Or.inr (by simp[hlk.1]))
   ·rw[List.map_append]at hk2
    rcases List.mem_append.1 hk2 with g|g
    ·obtain⟨z,hz,e⟩:=h.src k g;exact⟨z,List.mem_append.2 (Or.inl hz),e⟩
    ·simp only[List.map_cons,List.map_nil,List.mem_singleton,hlk.1]at g;exact⟨x,by simp,g.symm⟩
theorem needsP_sum {p:PlanM}{toks:List TokI}:∀{all:List TermM},(∀y∈all,y.cnt=(cntK y.key toks:Int))→∀(fr:Int) (more:V6),needsP p all fr more=(fr+(freshN all:Int),more.add (sumN p toks all))
 | [],_,fr,more=>by
  show(fr,more)=(fr+0,more.add zerosN);rw[V6.add_zero,Int.add_zero]
 |y::r,h,fr,more=>by
  have hy:=h y List.mem_cons_self;have ih:=fun fr more=>needsP_sum (p:=p) (toks:=toks) (all:=r) (fun z hz=>h z (List.mem_cons_of_mem _ hz)) fr more;rw[needsP_cons];show _=(fr+((((if y.recd=0 then 1 else 0)+freshN r:Nat)):Int),more.add ((ndT p y (cntK y.key toks)).add (sumN p toks r)))
  unfold ndT
  by_cases h0:y.recd=0
  ·rw[if_pos h0,if_pos h0,if_pos h0,ih,hy];refine Prod.ext ?_ ?_
   ·dsimp only;omega
   ·dsimp only;unfold V6.add V6.sum bookV;refine V6.ext' ?_ ?_ ?_ ?_ ?_ ?_<;>dsimp only<;>omega
  ·rw[if_neg h0,if_neg h0,if_neg h0,ih,hy];refine Prod.ext ?_ ?_
   ·dsimp only;omega
   ·dsimp only;unfold V6.add V6.sum zerosN;refine V6.ext' ?_ ?_ ?_ ?_ ?_ ?_<;>dsimp only<;>omega
theorem terms_at {cs:List Int}{t:Tab}{n:Nat}{toks:List TokI}(hs:∀x∈toks,x.2.1.size≤16):TermsAt cs t n (termsP cs t n toks []) toks∧(∀y∈termsP cs t n toks [],y.cnt=(cntK y.key toks:Int))∧freshN (termsP cs t n toks [])≤toks.length:=by
 have h:=termsP_ti cs t n toks [] [] ⟨List.nodup_nil,fun y hy=>(by cases hy),fun y hy=>(by cases hy),fun y hy=>(by cases hy)⟩
 rw[List.nil_append]at h;refine⟨⟨fun i j y z h1 h2 e=>map_uniq h.uniq h1 h2 e,termsP_looked cs t n toks [] (fun y hy=>(by cases hy)),fun x hx=>?_,fun y hy=>?_,fun y hy _=>?_⟩,h.cnt,?_⟩
 ·obtain⟨y,hy,e⟩:=List.mem_map.1 (h.has x hx);exact⟨y,hy,e⟩
 ·obtain⟨x,hx,e⟩:=h.src y.key (List.mem_map.2 ⟨y,hy,rfl⟩);rw[←e,keyB_size];have:=hs x hx
  omega
 ·obtain⟨x,hx,e⟩:=h.src y.key (List.mem_map.2 ⟨y,hy,rfl⟩);exact cntK_pos ⟨x,hx,e⟩
 ·have h1:∀l:List TermM,freshN l≤l.length:=fun l=>by
   induction l with
   |nil=>exact Nat.le_refl _
   |cons y r ih=>
    show(if y.recd=0 then 1 else 0)+freshN r≤r.length+1
    split<;>omega
  have h2:=keysL_len toks [];have h3:=congrArg List.length (termsP_keys cs t n toks []);rw[List.length_map]at h3;have h4:=h1 (termsP cs t n toks []);have h5:(keysL toks (([]:List TermM).map kcOf)).length≤0+toks.length:=h2
  omega
theorem findT_both {cs:List Int}{b id:Int}(hb:0≤b):∀(n d:Nat),b+4*((d+n:Nat):Int)≤(cs.length:Int)→∃c,c≤n∧(findT b id n d).ideal cs=some ((tfindL cs b id n d).1,cs,c)∧(tfindL cs b id n d).2=true
 |0,d,_=>⟨0,Nat.le_refl _,rfl,rfl⟩
 |n+1,d,h=>by
  obtain⟨c,h1,h2,h3⟩:=findT_both (cs:=cs) (id:=id) hb n (d+1) (by omega)
  have hin:0≤b+4*(d:Int)+1∧b+4*(d:Int)+1<(cs.length:Int):=by omega
  have hat:atL cs (b+4*(d:Int)+1)=(cs.getD (b+4*(d:Int)+1).toNat 0,true):=by unfold atL;rw[if_pos hin]
  have e:∀k:Int→Tree Int,(Tree.load (b+4*(d:Int)+1) k).ideal cs=((k (cs.getD (b+4*(d:Int)+1).toNat 0)).ideal cs).map fun y=>(y.1,y.2.1,y.2.2+1):=fun k=>by
   show(if _ then _ else _)=_
   rw[if_pos hin]
  unfold findT tfindL;rw[e,hat,if_neg (fun h=>Bool.noConfusion h)];dsimp only
  by_cases c1:cs.getD (b+4*(d:Int)+1).toNat 0=id
  ·refine⟨1,by omega,?_,by rw[if_pos c1]⟩
   have e2:(if cs.getD (b+4*(d:Int)+1).toNat 0=id then((d:Int),true)else tfindL cs b id n (d+1)).1=(d:Int):=by rw[if_pos c1]
   rw[e2];show((if false=true then Tree.ret (-1)else if cs.getD (b+4*(d:Int)+1).toNat 0=id then _ else findT b id n (d+1):Tree Int).ideal cs).map _=_
   rw[if_neg (by decide),if_pos c1];rfl
  ·refine⟨c+1,by omega,?_,by rw[if_neg c1];exact h3⟩
   have e2:(if cs.getD (b+4*(d:Int)+1).toNat 0=id then((d:Int),true)else tfindL cs b id n (d+1)).1=(tfindL cs b id n (d+1)).1:=by rw[if_neg c1]
   rw[e2];show((if false=true then Tree.ret (-1)else if cs.getD (b+4*(d:Int)+1).toNat 0=id then _ else findT b id n (d+1):Tree Int).ideal cs).map _=_
   rw[if_neg (by decide),if_neg c1,h2];rfl
def sumDocs (l:List SegM):Nat:=(l.map SegM.docs).sum
theorem place_ideal {cs:List Int}{id:Int}:∀(l:List SegM) (i:Nat),(∀x∈l,0≤x.base∧x.base+4*(x.docs:Int)≤(cs.length:Int))→∃c,c≤sumDocs l∧(placeT id l i).ideal cs=some (rplaceL cs id l i,cs,c)
 | [],i,_=>⟨0,Nat.zero_le _,rfl⟩
 |x::l,i,h=>by
  obtain⟨c,h1,h2⟩:=place_ideal (cs:=cs) (id:=id) l (i+1) fun y hy=>h y (List.mem_cons_of_mem _ hy);obtain⟨x0,x1⟩:=h x List.mem_cons_self;obtain⟨c2,g1,g2,_⟩:=findT_both (cs:=cs) (id:=id) x0 x.docs 0 (by omega)
  have hsum:sumDocs (x::l)=x.docs+sumDocs l:=by simp[sumDocs]
  unfold placeT rplaceL;rw[Tree.ideal_bind,g2]
  by_cases c0:0≤(tfindL cs x.base id x.docs 0).1
  ·refine⟨c2,by omega,?_⟩
   simp[Tree.ideal,c0]
  ·refine⟨c+c2,by omega,?_⟩
   simp[c0,h2]
end Go.Proofs.YtogdknnkhkjmcaaGreatDoor
