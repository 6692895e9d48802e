/- Lemmas on the programs that the statement reaches. -/
import Derived.Test.YtogdknnkhkjmcaaGreatDoorKRcF
import Derived.Test.YtogdknnkhkjmcaaGreatDoorKWrL4
namespace Go.Proofs.YtogdknnkhkjmcaaGreatDoor
open Go.RowKit
set_option linter.all false
theorem dictPut_ideal {p:PlanM}{cs:List Int}{u:V6}{s sl hi:Nat}{key:ByteArray}(hb:p.base.a4+u.a4=(hi:Int))(hf:¬p.size.a4<u.a4+(2+(((key.size+3)/4:Nat):Int)))(h:hi+2+(key.size+3)/4≤cs.length)(hs:s+sl<cs.length):
  (dictPutT p u (s:Int) (sl:Int) key).ideal cs=some (((hi:Int),{ u with a4:=u.a4+(2+(((key.size+3)/4:Nat):Int)) }),putC cs hi (s+sl) key.size (packC (bsL key)),(key.size+3)/4+2):=by
 unfold dictPutT;rw[if_neg hf,Tree.ideal_bind,hb,show(s:Int)+(sl:Int)=((s+sl:Nat):Int)from by omega,putD_ideal (by rw[packC_len,bsL_len];exact h) hs,packC_len,bsL_len]
 simp[Tree.ideal]
theorem word_step {p:PlanM}{P:Pools}{s n:Nat}{cs:List Int}{u:V6}{t:Tab}{q:Nat→Nat}{hi:Nat}(D:DicAt p P s n cs u t q hi){all:List TermM}{x:TokI}{l:List TokI}(T:TermsAt cs t n all (x::l))
  (hocc:occ t n+freshN all<n) (hfit:∀k,k<6→(u.add (sumN p (x::l) all)).g6 k≤p.size.g6 k) (hup:∀k,k<6→0≤u.g6 k) (d:Int):
  ∃cs1 rc u1 tl cs2 t2 u2 t' q' hi' all',RecTo p cs u s n (keyB x.1 x.2.1) cs1 rc u1∧cs1[rc]? =some ((tl:Nat):Int)∧tl<cs.length∧PutsTo p cs1 u1 tl (wordOf d x.2.2) cs2 t2 u2∧
   DicAt p P s n (cs2.set rc (t2:Int)) u2 t' q' hi'∧TermsAt (cs2.set rc (t2:Int)) t' n all' l∧occ t' n+freshN all'=occ t n+freshN all∧u2.add (sumN p l all')=u.add (sumN p (x::l) all)∧u2.a5=u.a5∧(∀k,k<6→u.g6 k≤u2.g6 k)∧
   (∃c,c≤n*7+20∧(wordT p (s:Int) n d x all u).ideal cs=some ((all',u2),cs2.set rc (t2:Int),c))∧
   (∀j:Nat,j<3∨(p.base.a4+p.size.a4≤(j:Int)∧j<s)∨s+n≤j→(cs2.set rc (t2:Int))[j]? =cs[j]?)∧(cs2.set rc (t2:Int)).length=cs.length∧(∀i k a,t' i=some (k,a)→(∃a',t i=some (k,a'))∨k=bsL (keyB x.1 x.2.1)):=by
 obtain⟨y,hy⟩:=(T.has x List.mem_cons_self).ix;have hyk:=keyIx_key hy;have hym:=List.mem_of_getElem? hy;have hsz:=T.size y hym;obtain⟨lk1,lk2⟩:=T.look y hym;have hkl:(bsL y.key).length=y.key.size:=bsL_len _;have hkb:=bsL_range y.key;have hcs:=cntK_self x l
 -- what all need is not less than nothing
 have htail:∀z∈all,∃(tl:Nat) (v:Option (Nat×Nat×Nat)),z.tl=(tl:Int)∧TailIs P q tl v∧((lookP cs t n z.key).recd≠0→∃i a:Nat,i<n∧t i=some (bsL z.key,a)∧(lookP cs t n z.key).recd=(a:Int)∧cs[a]? =some (tl:Int)):=by
  intro z hz;obtain⟨e1,e2⟩:=T.look z hz
  by_cases h0:(probe t n (homeD n (bsL z.key)) (bsL z.key) n 0).1=0
  ·refine⟨0,none,?_,Or.inl ⟨rfl,rfl⟩,fun h=>absurd ?_ h⟩
   ·rw[e2];unfold lookP;rw[if_pos h0];rfl
   ·unfold lookP;rw[if_pos h0]
  ·obtain⟨j,a,hj,hta,hx,_⟩:=probe_sound (x:=(probe t n (homeD n (bsL z.key)) (bsL z.key) n 0).1) (y:=(probe t n (homeD n (bsL z.key)) (bsL z.key) n 0).2) rfl h0 D.n0;obtain⟨tl,v,g1,g2⟩:=D.tails _ _ _ hj hta;refine⟨tl,v,?_,g2,fun _=>⟨j,a,hj,hta,?_,g1⟩⟩
   ·rw[e2];unfold lookP;rw[if_neg h0,hx,Int.toNat_natCast];exact(getD_of g1).2
   ·unfold lookP;rw[if_neg h0,hx]
 have hnn:∀z∈all,∀k,k<6→0≤(ndT p z (cntK z.key (x::l))).g6 k:=by
  intro z hz k hk;obtain⟨tl,v,h1,h2,_⟩:=htail z hz;unfold ndT;rw[V6.addg,h1];have a1:=h2.pos D.ok D.lays (cntK z.key (x::l)) k hk;have a2:0≤(if z.recd=0 then bookV z.key else zerosN).g6 k:=by
   split
   ·unfold bookV V6.g6;split<;>dsimp only<;>omega
   ·unfold zerosN V6.g6;split<;>decide
  omega
 have hbud:=fun k (hk:k<6)=>(by
  have a1:=(sumN_mem hnn).2 y hym k hk;have a2:=hfit k hk;rw[V6.addg]at a2
  omega:u.g6 k+(ndT p y (cntK y.key (x::l))).g6 k≤p.size.g6 k)
 rw[hyk,hcs]at hbud;have hfree:∃i,i<n∧t i=none:=occ_void (by omega)
 obtain⟨sl,hsl,hslq⟩:=probe_slot D.n0 (homeD n (bsL y.key)) (bsL y.key) hfree;have hoth:∀j z,all[j]? =some z→j≠keyIx (keyB x.1 x.2.1) all→z.key≠y.key:=fun j z hz hj e=>hj (T.uniq _ _ _ _ hz hy e)
 by_cases h0:(probe t n (homeD n (bsL y.key)) (bsL y.key) n 0).1=0
 ·--a new record
  have hr0:y.recd=0:=by rw[lk1];unfold lookP;rw[if_pos h0]
  have ht0:y.tl=0:=by rw[lk2];unfold lookP;rw[if_pos h0]
  have hpr:probe t n (homeD n (bsL y.key)) (bsL y.key) n 0=(0,(sl:Int)):=Prod.ext h0 hslq;have hn4:(ndT p y (cntK (keyB x.1 x.2.1) l+1)).g6 4=2+(((y.key.size+3)/4:Nat):Int):=by
   unfold ndT;rw[V6.addg,if_pos hr0,ht0,show(0:Int)=((0:Nat):Int)from rfl,(TailIs.zero P q).need D.ok D.lays]
   show(bookV y.key).a4+(refL _ _ _ zerosN).a4=_;rw[(refL_45 _ _ _ _).1];show 2+_+(0:Int)=_
   omega
  have hf4:u.a4+(2+(((y.key.size+3)/4:Nat):Int))≤p.size.a4:=by
   have:=hbud 4 (by decide)
   rw[hn4]at this;exact this
  obtain⟨g1,g2,D1,g4,g5,g6,g7,g8⟩:=D.newRec hpr (by omega) hkb (by rw[hkl];exact hf4)
  rw[hkl]at D1 g7;rw[hkl]at g4 g6;have hself:(t.put sl (bsL y.key,hi)) sl=some (bsL y.key,hi):=Tab.put_self _ _ _;have hu1:∀k,k≤3→(refL (cntK (keyB x.1 x.2.1) l+1) (leftOf none) (classOf none) { u with a4:=u.a4+(2+(((y.key.size+3)/4:Nat):Int)) }).uK k≤p.sK k:=by
   intro k hk;have hb:=hbud k (by omega)
   rw[(TailIs.zero P q).sum D.ok D.lays,←V6.g_of _ hk,V6.addg,←p.g_of hk];unfold ndT at hb;rw[V6.addg,if_pos hr0,ht0]at hb;have hz:(bookV y.key).g6 k=0:=by rcases k_cases hk with rfl|rfl|rfl|rfl<;>rfl
   have hz2:({ u with a4:=u.a4+(2+(((y.key.size+3)/4:Nat):Int)) }:V6).g6 k=u.g6 k:=by rcases k_cases hk with rfl|rfl|rfl|rfl<;>rfl
   rw[hz2];rw[hz]at hb;have e0:((0:Nat):Int)=0:=rfl;rw[e0]
   omega
  obtain⟨cs2,t2,u2,q2,x2,w1,w2,w3,w4,w5,w6,w7,w8,w9,w10⟩:=D1.word g1 hself (tl:=0) (x:=none) (Or.inl ⟨rfl,rfl⟩) hu1 (wordOf_in d x.2.2);have hlo:=lo_ge D.ok;have hhi0:(hi:Int)=p.base.a4+u.a4:=D.top;have hbase:=D.base;have ha4:=D.a4;have hbk:=D.book;have hlen:=D.rep.len;have hpl:(packC (bsL y.key)).length=(y.key.size+3)/4:=by rw[packC_len,hkl]
  obtain⟨hc1,hc2⟩:=w1.len;have hpc:(putC cs hi (s+sl) (y.key.size:Int) (packC (bsL y.key))).length=cs.length:=putC_len ..;have hhn:((hi:Nat):Int)≠0:=by omega
  refine⟨_,hi,_,0,cs2,t2,u2,_,q2,_,all.set (keyIx (keyB x.1 x.2.1) all) ⟨y.key,(hi:Int),(t2:Int),y.cnt⟩,Or.inr ⟨sl,?_,ha4.1,?_,by omega,?_,g8,?_,?_⟩,g4,by omega,w1,w2,?_,?_,?_,w6,?_,?_,?_,by rw[List.length_set,hc1,hpc],fun i k a e=>by
   unfold Tab.put at e
   split at e
   ·injection e with e;injection e with e _;rw[←hyk];exact Or.inr e.symm
   ·exact Or.inl ⟨a,e⟩⟩
  ·rw[findL_of D.rep D.n0,←hyk,hpr]
  ·rw[←hyk];exact hf4
  ·rw[←hyk];exact g7
  ·rw[←hyk]
  ·rw[←hyk]
  ·--the terms behind it
   have hWF:=D1.wf;refine⟨fun i j a b ha hb hk=>?_,fun z hz=>?_,fun z hz=>?_,fun z hz=>?_,fun z hz hr=>?_⟩
   ·rw[List.getElem?_set]at ha hb
    by_cases c1:keyIx (keyB x.1 x.2.1) all=i
    ·by_cases c2:keyIx (keyB x.1 x.2.1) all=j
     ·omega
     ·rw[if_neg c2]at hb;rw[if_pos c1]at ha
      split at ha
      ·injection ha with ha;subst ha
       exact absurd hk.symm (hoth j b hb (fun e=>c2 e.symm))
      ·cases ha
    ·rw[if_neg c1]at ha
     by_cases c2:keyIx (keyB x.1 x.2.1) all=j
     ·rw[if_pos c2]at hb
      split at hb
      ·injection hb with hb;subst hb
       exact absurd hk (hoth i a ha (fun e=>c1 e.symm))
      ·cases hb
     ·rw[if_neg c2]at hb;exact T.uniq i j a b ha hb hk
   ·obtain⟨j,hj⟩:=List.mem_iff_getElem?.1 hz;rw[List.getElem?_set]at hj
    by_cases c1:keyIx (keyB x.1 x.2.1) all=j
    ·rw[if_pos c1]at hj
     split at hj
     ·injection hj with hj;subst hj
      have hpc2:=probe_complete hWF g1 hself;have hne:¬(probe (t.put sl (bsL y.key,hi)) n (homeD n (bsL y.key)) (bsL y.key) n 0).1=0:=by rw[hpc2];exact hhn
      unfold LookedUp lookP;dsimp only;rw[if_neg hne,hpc2];refine⟨rfl,?_⟩;dsimp only;rw[Int.toNat_natCast,(getD_of w8).2]
     ·cases hj
    ·rw[if_neg c1]at hj;have hzk:=hoth j z hj (fun e=>c1 e.symm);have hzb:bsL z.key≠bsL y.key:=fun e=>hzk (bsL_inj e);have hpo:=probe_other D.n0 D.wf g2 hWF hzb;obtain⟨e1,e2⟩:=T.look z (List.mem_of_getElem? hj);unfold LookedUp
     by_cases hz0:(probe t n (homeD n (bsL z.key)) (bsL z.key) n 0).1=0
     ·rw[e1,e2];unfold lookP;rw[if_pos hz0,if_pos (hpo.trans hz0)];exact⟨rfl,rfl⟩
     ·obtain⟨j2,a2,hj2,hta2,hx2,_⟩:=probe_sound (x:=(probe t n (homeD n (bsL z.key)) (bsL z.key) n 0).1) (y:=(probe t n (homeD n (bsL z.key)) (bsL z.key) n 0).2) rfl hz0 D.n0;obtain⟨r1,r2,_,_⟩:=D.rep.lies _ _ _ hj2 hta2;rw[e1,e2];unfold lookP;rw[if_neg hz0,if_neg (by rw[hpo];exact hz0),hpo,hx2]
      refine⟨rfl,?_⟩;dsimp only;rw[Int.toNat_natCast,List.getD_eq_getElem?_getD,List.getD_eq_getElem?_getD,w7 a2 (Or.inr r1) (by omega),g6 a2 (Or.inl (by omega))]
   ·exact c70
   ·rcases List.mem_or_eq_of_mem_set hz with h|rfl
    ·exact T.size z h
    ·exact hsz
   ·obtain⟨j,hj⟩:=List.mem_iff_getElem?.1 hz;rw[List.getElem?_set]at hj
    by_cases c1:keyIx (keyB x.1 x.2.1) all=j
    ·rw[if_pos c1]at hj
     split at hj
     ·injection hj with hj;subst hj
      exact absurd hr hhn
     ·cases hj
    ·exact c114
  ·have h1:=freshN_set (y:=y) (y':=⟨y.key,(hi:Int),(t2:Int),y.cnt⟩) hhn hy;rw[if_pos hr0]at h1;rw[occ_put _ g2 hsl]
   omega
  ·refine sumN_set hy (fun j z hz hj=>(cntK_other l (fun e=>hoth j z hz hj (by rw[←e,hyk]))).symm) ?_
   dsimp only;rw[hyk,hcs];unfold ndT;dsimp only;rw[if_neg hhn,if_pos hr0,V6.zero_add,ht0,←w3.sum D.ok D.lays,←w4,(TailIs.zero P q).sum D.ok D.lays,←V6.add_assoc]
   congr 1
   unfold bookV V6.add;refine V6.ext' ?_ ?_ ?_ ?_ ?_ ?_<;>dsimp only<;>omega
  ·intro k hk
   by_cases h3:k≤3
   ·exact c116
   ·rcases(by omega:k=4∨k=5)with rfl|rfl
    ·show u.a4≤u2.a4;rw[w5];dsimp only;omega
    ·show u.a5≤u2.a5;rw[w6];exact Int.le_refl _
  ·obtain⟨c1,k1,k2⟩:=findK_ideal D.rep D.n0 y.key;obtain⟨c2,k3,k4⟩:=w1.ideal;have hput:(dictPutT p u (s:Int) (sl:Int) y.key).ideal cs=_:=dictPut_ideal (hi:=hi) (by omega) (by omega) g7 g8
   have hst:(Tree.store (hi:Int) (t2:Int) (.ret (all.set (keyIx (keyB x.1 x.2.1) all) ⟨y.key,(hi:Int),(t2:Int),y.cnt⟩,u2))).ideal cs2=some ((all.set (keyIx (keyB x.1 x.2.1) all) ⟨y.key,(hi:Int),(t2:Int),y.cnt⟩,u2),cs2.set hi (t2:Int),1):=by
    rw[store_ideal rfl (by omega)];rfl
   have hm:n*(2+(y.key.size+3)/4)≤n*7:=Nat.mul_le_mul_left _ (by omega)
   refine⟨1+c2+((y.key.size+3)/4+2+c1),by omega,?_⟩
   unfold wordT;rw[hy];dsimp only;rw[Tree.ideal_bind];unfold recT;rw[if_pos hr0,Tree.ideal_bind,k2,Option.bind_some,hpr,hput];dsimp only[Option.map,Option.bind];rw[Tree.ideal_bind,ht0,show(0:Int)=((0:Nat):Int)from rfl,k4]
   dsimp only[Option.map,Option.bind];rw[hst]
  ·intro j hj;rw[w7 j (by omega) (by omega),g6 j (by omega)]
 ·--a record that is there
  obtain⟨i,a,hi0,hta,hxa,hya⟩:=probe_sound (x:=(probe t n (homeD n (bsL y.key)) (bsL y.key) n 0).1) (y:=(probe t n (homeD n (bsL y.key)) (bsL y.key) n 0).2) rfl h0 D.n0;obtain⟨tl,v,hc,hv⟩:=D.tails _ _ _ hi0 hta;have hr1:y.recd=(a:Int):=by rw[lk1];unfold lookP;rw[if_neg h0,hxa]
  have ht1:y.tl=(tl:Int):=by rw[lk2];unfold lookP;rw[if_neg h0,hxa,Int.toNat_natCast];exact(getD_of hc).2
  have hlo:=lo_ge D.ok;obtain⟨r1,r2,_,_⟩:=D.rep.lies _ _ _ hi0 hta;have hbk:=D.rep.book;have hlen:=D.rep.len;have hhi0:(hi:Int)=p.base.a4+u.a4:=D.top;have hbase:=D.base;have ha4:=D.a4;have hbk2:=D.book;have han:((a:Nat):Int)≠0:=by omega
  have hrn:y.recd≠0:=by rw[hr1];exact han
  have hu1:∀k,k≤3→(refL (cntK (keyB x.1 x.2.1) l+1) (leftOf v) (classOf v) u).uK k≤p.sK k:=by
   intro k hk;have hb:=hbud k (by omega)
   rw[hv.sum D.ok D.lays,←V6.g_of _ hk,V6.addg,←p.g_of hk];unfold ndT at hb;rw[if_neg hrn,V6.zero_add,ht1]at hb;exact hb
  obtain⟨cs2,t2,u2,q2,x2,w1,w2,w3,w4,w5,w6,w7,w8,w9,w10⟩:=D.word hi0 hta hv hu1 (wordOf_in d x.2.2);obtain⟨hc1,hc2⟩:=w1.len;have htlt:=tail_lt D.ok hv;refine⟨cs,a,u,tl,cs2,t2,u2,t,q2,hi,all.set (keyIx (keyB x.1 x.2.1) all) ⟨y.key,(a:Int),(t2:Int),y.cnt⟩,Or.inl ⟨(probe t n (homeD n (bsL y.key)) (bsL y.key) n 0).2,?_,by omega,by omega,rfl,rfl⟩,hc,by omega,w1,w2,?_,?_,?_,w6,?_,?_,?_,by rw[List.length_set,hc1],fun i k a e=>Or.inl ⟨a,e⟩⟩
  ·rw[findL_of D.rep D.n0,←hyk,hxa]
  ·refine⟨fun i j b c hb hcc hk=>?_,fun z hz=>?_,fun z hz=>?_,fun z hz=>?_,fun z hz hr=>?_⟩
   ·rw[List.getElem?_set]at hb hcc
    by_cases c1:keyIx (keyB x.1 x.2.1) all=i
    ·by_cases c2:keyIx (keyB x.1 x.2.1) all=j
     ·omega
     ·rw[if_neg c2]at hcc;rw[if_pos c1]at hb
      split at hb
      ·injection hb with hb;subst hb
       exact absurd hk.symm (hoth j c hcc (fun e=>c2 e.symm))
      ·cases hb
    ·rw[if_neg c1]at hb
     by_cases c2:keyIx (keyB x.1 x.2.1) all=j
     ·rw[if_pos c2]at hcc
      split at hcc
      ·injection hcc with hcc;subst hcc
       exact absurd hk (hoth i b hb (fun e=>c1 e.symm))
      ·cases hcc
     ·rw[if_neg c2]at hcc;exact T.uniq i j b c hb hcc hk
   ·obtain⟨j,hj⟩:=List.mem_iff_getElem?.1 hz;rw[List.getElem?_set]at hj
    by_cases c1:keyIx (keyB x.1 x.2.1) all=j
    ·rw[if_pos c1]at hj
     split at hj
     ·injection hj with hj;subst hj
      unfold LookedUp lookP;dsimp only;rw[if_neg h0,hxa];refine⟨rfl,?_⟩;dsimp only;rw[Int.toNat_natCast,(getD_of w8).2]
     ·cases hj
    ·rw[if_neg c1]at hj;have hzk:=hoth j z hj (fun e=>c1 e.symm);obtain⟨e1,e2⟩:=T.look z (List.mem_of_getElem? hj);unfold LookedUp
     by_cases hz0:(probe t n (homeD n (bsL z.key)) (bsL z.key) n 0).1=0
     ·rw[e1,e2];unfold lookP;rw[if_pos hz0,if_pos hz0];exact⟨rfl,rfl⟩
     ·obtain⟨j2,a2,hj2,hta2,hx2,_⟩:=probe_sound (x:=(probe t n (homeD n (bsL z.key)) (bsL z.key) n 0).1) (y:=(probe t n (homeD n (bsL z.key)) (bsL z.key) n 0).2) rfl hz0 D.n0;obtain⟨r3,r4,_,_⟩:=D.rep.lies _ _ _ hj2 hta2;have hane:a2≠a:=fun e=>by
       subst e;exact hzk (bsL_inj (D.rep.key_of hj2 hi0 hta2 hta))
      rw[e1,e2];unfold lookP;rw[if_neg hz0,if_neg hz0,hx2];refine⟨rfl,?_⟩;dsimp only;rw[Int.toNat_natCast,List.getD_eq_getElem?_getD,List.getD_eq_getElem?_getD,w7 a2 (Or.inr r3) hane]
   ·exact c70
   ·rcases List.mem_or_eq_of_mem_set hz with h|rfl
    ·exact T.size z h
    ·exact hsz
   ·obtain⟨j,hj⟩:=List.mem_iff_getElem?.1 hz;rw[List.getElem?_set]at hj
    by_cases c1:keyIx (keyB x.1 x.2.1) all=j
    ·rw[if_pos c1]at hj
     split at hj
     ·injection hj with hj;subst hj
      exact absurd hr han
     ·cases hj
    ·exact c114
  ·have h1:=freshN_set (y:=y) (y':=⟨y.key,(a:Int),(t2:Int),y.cnt⟩) han hy;rw[if_neg hrn]at h1
   omega
  ·refine sumN_set hy (fun j z hz hj=>(cntK_other l (fun e=>hoth j z hz hj (by rw[←e,hyk]))).symm) ?_
   dsimp only;rw[hyk,hcs];unfold ndT;dsimp only;rw[if_neg han,if_neg hrn,V6.zero_add,V6.zero_add,ht1,←w3.sum D.ok D.lays,←w4,hv.sum D.ok D.lays]
  ·intro k hk
   by_cases h3:k≤3
   ·exact c116
   ·rcases(by omega:k=4∨k=5)with rfl|rfl
    ·show u.a4≤u2.a4;rw[w5];exact Int.le_refl _
    ·show u.a5≤u2.a5;rw[w6];exact Int.le_refl _
  ·obtain⟨c2,k3,k4⟩:=w1.ideal;have hst:(Tree.store (a:Int) (t2:Int) (.ret (all.set (keyIx (keyB x.1 x.2.1) all) ⟨y.key,(a:Int),(t2:Int),y.cnt⟩,u2))).ideal cs2=some ((all.set (keyIx (keyB x.1 x.2.1) all) ⟨y.key,(a:Int),(t2:Int),y.cnt⟩,u2),cs2.set a (t2:Int),1):=by
    rw[store_ideal rfl (by omega)];rfl
   refine⟨1+c2+0,by omega,?_⟩
   unfold wordT;rw[hy];dsimp only;rw[Tree.ideal_bind];unfold recT;rw[if_neg hrn];show Option.bind (some ((y.recd,u),cs,0)) _=_;dsimp only[Option.bind];rw[Tree.ideal_bind,ht1,k4,hr1];dsimp only[Option.map,Option.bind];rw[hst]
  ·intro j hj;rw[w7 j (by omega) (by omega)]
set_option maxRecDepth 100000 in
set_option maxHeartbeats 4000000 in
theorem add_long {w:World}{K:Nat→Prop}{r m c:Nat}{s:St}(h:RM w K r m c s)(hK0:K 0)(hT:PTab w)(hF:FoldTab w)(cf:ConfM)(hcf:cf.ok∧cf.all≤65536)(W:WrM)(live:SegM)(A:Option Addr)(cp:Nat)(id:Int)(fs:List ByteArray)(FA:Option Addr)(fc:Nat)
  (hlive:W.segs.getLast?=some live) (hsl:SlAt w K 3 (.slice A W.segs.length cp) W.segs.length (W.segs.flatMap SegM.cells)) (hfl:SlAt w K 1 (.slice FA fs.length fc) fs.length (fs.map Value.string)) (hfn:fs.length≤1000000)
  (hok:∀x∈W.segs,(-1099511627700≤x.addr∧x.addr≤1099511627700)∧x.docs≤65536) (hn:W.segs.length≤65536) (hi:U32 id) (hv:0≤W.ver∧W.ver≤4294967294) (hu:UIn cf.plan W.used) (htm:0≤W.terms∧W.terms≤65536) (hlb:0≤live.base∧live.base≤65000)
  (htk:toksM fs=none):
  Z 36 #[.pointer (some ⟨r,0,none⟩),.agg cf.list.toArray,.agg (W.vals (.slice A W.segs.length cp)).toArray,.agg #[J id,.slice FA fs.length fc]] w fun e w'=>
   (e= .returned (.tuple #[.agg (W.vals (.slice A W.segs.length cp)).toArray,I 4])∧RM w' K r m c s)∧Keeps K w w':=by
 have zz73:=PLift.up @c444;exact c443
set_option maxRecDepth 100000 in
set_option maxHeartbeats 4000000 in
theorem add_dup {w:World}{K:Nat→Prop}{r m c:Nat}{s:St}(h:RM w K r m c s)(hK0:K 0)(hT:PTab w)(hF:FoldTab w)(cf:ConfM)(hcf:cf.ok∧cf.all≤65536)(W:WrM)(live:SegM)(A:Option Addr)(cp:Nat)(id:Int)(fs:List ByteArray)(FA:Option Addr)(fc:Nat)
  (hlive:W.segs.getLast?=some live) (hsl:SlAt w K 3 (.slice A W.segs.length cp) W.segs.length (W.segs.flatMap SegM.cells)) (hfl:SlAt w K 1 (.slice FA fs.length fc) fs.length (fs.map Value.string)) (hfn:fs.length≤1000000)
  (hok:∀x∈W.segs,(-1099511627700≤x.addr∧x.addr≤1099511627700)∧x.docs≤65536) (hn:W.segs.length≤65536) (hi:U32 id) (hv:0≤W.ver∧W.ver≤4294967294) (hu:UIn cf.plan W.used) (htm:0≤W.terms∧W.terms≤65536) (hlb:0≤live.base∧live.base≤65000)
  {toks:List TokI} (htk:toksM fs=some toks) {pi pd:Int} {sp:St} (hq:(placeT id W.segs 0).exec s=((pi,pd,true),sp)):
  Z 36 #[.pointer (some ⟨r,0,none⟩),.agg cf.list.toArray,.agg (W.vals (.slice A W.segs.length cp)).toArray,.agg #[J id,.slice FA fs.length fc]] w fun e w'=>
   (e= .returned (.tuple #[.agg (W.vals (.slice A W.segs.length cp)).toArray,I 6])∧RM w' K r m c sp)∧Keeps K w w':=by
 have zz3:=PLift.up @c153;exact c152
set_option maxRecDepth 100000 in
set_option maxHeartbeats 4000000 in
theorem add_off {w:World}{K:Nat→Prop}{r m c:Nat}{s:St}(h:RM w K r m c s)(hK0:K 0)(hT:PTab w)(hF:FoldTab w)(cf:ConfM)(hcf:cf.ok∧cf.all≤65536)(W:WrM)(live:SegM)(A:Option Addr)(cp:Nat)(id:Int)(fs:List ByteArray)(FA:Option Addr)(fc:Nat)
  (hlive:W.segs.getLast?=some live) (hsl:SlAt w K 3 (.slice A W.segs.length cp) W.segs.length (W.segs.flatMap SegM.cells)) (hfl:SlAt w K 1 (.slice FA fs.length fc) fs.length (fs.map Value.string)) (hfn:fs.length≤1000000)
  (hok:∀x∈W.segs,(-1099511627700≤x.addr∧x.addr≤1099511627700)∧x.docs≤65536) (hn:W.segs.length≤65536) (hi:U32 id) (hv:0≤W.ver∧W.ver≤4294967294) (hu:UIn cf.plan W.used) (htm:0≤W.terms∧W.terms≤65536) (hlb:0≤live.base∧live.base≤65000)
  {toks:List TokI} (htk:toksM fs=some toks) {pi pd:Int} {sp:St} (hq:(placeT id W.segs 0).exec s=((pi,pd,false),sp)) (ho1:sp.isOff=false) (hx:¬cf.docs≤(live.docs:Int)) {all:List TermM} {sy:St} (hy:(termsT (live.base+4*cf.docs) cf.plan.slots.toNat toks []).exec sp=(all,sy)) {fr m0 m1 m2 m3 m4 m5:Int} (hnd:needsP cf.plan all 0 zero6=(fr,⟨m0,m1,m2,m3,m4,m5⟩)) (ho2:sy.isOff=true):
  Z 36 #[.pointer (some ⟨r,0,none⟩),.agg cf.list.toArray,.agg (W.vals (.slice A W.segs.length cp)).toArray,.agg #[J id,.slice FA fs.length fc]] w fun e w'=>
   (e= .returned (.tuple #[.agg (W.vals (.slice A W.segs.length cp)).toArray,I 0])∧RM w' K r m c sy)∧Keeps K w w':=by
 have zz2:=PLift.up @c150;exact c149
end Go.Proofs.YtogdknnkhkjmcaaGreatDoor
