/- Lemmas on the programs that the statement reaches. -/
import Derived.Test.YtogdknnkhkjmcaaGreatDoorKWrG
namespace Go.Proofs.YtogdknnkhkjmcaaGreatDoor
open Go.RowKit
set_option linter.all false
def stopsB:List ByteArray:=stopsP.map fun l=>⟨l.toArray⟩
theorem stopsB_len:stopsB.length=17:=rfl
theorem stopP_any (s:ByteArray):stopP s=stopsB.any fun t=>t.toList==s.toList:=by
 unfold stopP stopsB;rw[List.any_map]
 congr 1
 funext l
 show(s.toList==l)=((⟨l.toArray⟩:ByteArray).toList==s.toList);rw[Bool.eq_iff_iff,beq_iff_eq,beq_iff_eq,ByteArray.toList_eq,ByteArray.toList_eq];exact⟨fun h=>h.symm,fun h=>h.symm⟩
theorem stops_cells (w:World)(T:TypeId):∀(i:Nat) (x:ByteArray),stopsB[i]? =some x→(w.alloc (.cells (stopsB.map Value.string).toArray T)).cell? ⟨w.heap.size,i,none⟩=some (.string x):=fun i x h=>by
 have:=(own_lit w 0 T T 1 17 (stopsB.map Value.string) rfl rfl (by decide) (Nat.zero_le _)).cells (g:=w.heap.size) rfl i (.string x) (by rw[List.getElem?_map,h];rfl)
 rw[Addr.add_lit]at this
 simpa using this
set_option maxRecDepth 100000 in
set_option maxHeartbeats 2000000 in
theorem ref6_stop (s:ByteArray)(w:World):Z 107 #[.string s] w fun e w'=>e= .returned (.bool (stopP s))∧Keeps (· <w.heap.size) w w':=by
 have hk0:Keeps (· <w.heap.size) w (w.alloc (.cells (stopsB.map Value.string).toArray 9)):=(Keeps.refl _ _).alloc (fun b hb=>hb) _;have hc:=stops_cells w 9;have hany:=stopP_any s;have hf:∀i:Nat,(∀j x,j<i→stopsB[j]? =some x→(x.toList==s.toList)=false)→17≤i→stopP s=false:=fun i h hi=>by
  rw[hany,Bool.eq_false_iff];intro hc;obtain⟨x,hx,hs⟩:=List.any_eq_true.1 hc;obtain⟨j,hj⟩:=List.getElem?_of_mem hx;have hjl:=(List.getElem?_eq_some_iff.1 hj).1;rw[stopsB_len]at hjl;rw[h j x (by omega) hj]at hs
  cases hs
 have ht:∀(i:Nat) (x:ByteArray),stopsB[i]? =some x→(x.toList==s.toList)=true→stopP s=true:=fun i x h1 h2=>by
  rw[hany];exact List.any_eq_true.2 ⟨x,List.mem_of_getElem? h1,h2⟩
 have Hk0:=hid hk0;have Hc:=hid hc;have Hany:=hid hany;have Hf:=hid hf;have Ht:=hid ht;clear hk0 hc hany hf ht;refine calls_hide fun R' hR'=>?_
 go_enter Tryz.func107,Tryz.ntmps107
 go_wp2
 go_loopw[8] (fun iv wx=>∃i:Nat,iv=I (i:Int)∧i≤17∧w.alloc (.cells (stopsB.map Value.string).toArray 9)=wx∧Hid (∀j x,j<i→stopsB[j]? =some x→(x.toList==s.toList)=false)) (fun iv _=>17-(intOf iv).toNat)
 case atStart=>exact⟨0,rfl,Nat.zero_le _,rfl,hid (fun j x h=>absurd h (by omega))⟩
 case round=>
  obtain⟨i,rfl,hi,rfl,HJ⟩:=hrel
  by_cases hlt:i<17
  ·have hltI:(i:Int)<17:=by omega
   obtain⟨x,hx⟩:∃x,stopsB[i]? =some x:=⟨_,List.getElem?_eq_getElem (by rw[stopsB_len];exact hlt)⟩
   have hcx:=Hc.out i x hx
   by_cases he:(x.toList==s.toList)=true
   ·have hr:=Ht.out i x hx he;clear hx;have Hr:=hid hr;clear hr
    go_wp2_with fail
    refine hR'.out _ _ ⟨?_,Hk0.out⟩;rw[Hr.out]
    rfl
   ·have he:(x.toList==s.toList)=false:=by simpa using he
    have hJ2:∀j y,j<i+1→stopsB[j]? =some y→(y.toList==s.toList)=false:=fun j y h1 h2=>by
     by_cases hj:j=i
     ·subst hj;rw[hx]at h2;injection h2 with h2
      subst h2;exact he
     ·exact HJ.out j y (by omega) h2
    clear hx HJ;have HJ2:=hid hJ2;clear hJ2
    go_wp2_with fail
    go_roundw
    case rel=>exact⟨i+1,by go_num,by omega,by first|trivial|rfl,HJ2⟩
    case measure=>exact msA
  ·have hltI:¬(i:Int)<17:=by omega
   have hr:=Hf.out i HJ.out (by omega)
   clear HJ;have Hr:=hid hr;clear hr
   go_wp2_with fail
   refine hR'.out _ _ ⟨?_,Hk0.out⟩;rw[Hr.out]
def wordsF (l:List (ByteArray×Nat)):List (ByteArray×Nat):=l.filter fun t=> !stopP t.1
theorem wordsF_step (l:List (ByteArray×Nat))(i:Nat)(t:ByteArray×Nat)(h:l[i]? =some t):wordsF (l.take (i+1))=wordsF (l.take i)++(if stopP t.1 then []else [t]):=by
 unfold wordsF;rw[List.take_add_one,h,List.filter_append]
 congr 1
 cases hs:stopP t.1<;>simp[List.filter,hs]
theorem allL_len:∀(l:List Int) (o:List UInt8) (fu so:Bool) (p:Nat),(allL o fu so p l).length≤l.length
 | [],_,_,_,_=>Nat.le_refl _
 |r::l,o,fu,so,p=>by
  rw[allL_cons];have h1:=fun o fu so p=>allL_len l o fu so p
  split
  ·split
   ·have:=h1 [] false false (p+1);simp only[List.length_cons]
    omega
   ·have:=h1 [] false false p;simp only[List.length_cons]
    omega
  ·split
   all_goals
    refine Nat.le_trans (h1 _ _ _ _) ?_
    simp
theorem allS_len (s:ByteArray):(allS s).length≤s.size+1:=by
 refine Nat.le_trans (allL_len _ _ _ _ _) ?_;have:=runesF_len s s.size 0;simp only[List.length_append,List.length_singleton];exact Nat.succ_le_succ this
set_option maxRecDepth 100000 in
set_option maxHeartbeats 2000000 in
theorem ref6_words (s:ByteArray)(hs:s.size≤1000000)(w:World):Z 87 #[.string s] w fun e w'=>∃v,e= .returned v∧TokRow w w' v (wordsF (allS s)):=by
 refine calls_hide fun R' hR'=>?_
 go_enter Tryz.func87,Tryz.ntmps87
 go_wp2_with fail
 refine(ref6_all s hs w).mono ?_;rintro e w1 ⟨v,rfl,hO,hk1⟩;obtain⟨A0,c0,rfl⟩:=ownB_form hO;have hal:=allS_len s;have hal:(allS s).length≤1000001:=by omega
 generalize allS s=al at*;have hS:=ownB_slAtS hO;clear hO;have hk2:Keeps (· <w.heap.size) w (w1.alloc (.cells #[] 128)):=hk1.alloc (fun b hb=>Nat.lt_of_lt_of_le hb hk1.size) _;have hO2:(w1.alloc (.cells #[] 128)).ownsRow w1.heap.size 128 3 (.slice (some ⟨w1.heap.size,0,none⟩) 0 0) 0 []:=own_lit w1 w1.heap.size _ _ 3 0 [] rfl rfl (by decide) (Nat.le_refl _)
 have hkw:Keeps (· <w1.heap.size) w1 (w1.alloc (.cells #[] 128)):=(Keeps.refl _ _).alloc (fun b hb=>hb) _;have HS:=hid hS;have Hk1:=hid hk1;have Hk2:=hid hk2;have HO2:=hid hO2;have Hkw:=hid hkw;clear hS hk1 hk2 hO2 hkw
 go_wp2_with fail
 go_loopw[4,11] (fun ov iv wx=>∃(i:Nat) (acc:List (ByteArray×Nat)) (A:Option Addr) (cp:Nat),ov= .slice A acc.length cp∧iv=I (i:Int)∧i≤al.length∧acc.length≤i∧Hid (TokRow w1 wx (.slice A acc.length cp) acc)∧Hid (acc=wordsF (al.take i))) (fun _ iv _=>al.length-(intOf iv).toNat)
 case atStart=>exact⟨0,[],some ⟨w1.heap.size,0,none⟩,0,rfl,rfl,Nat.zero_le _,Nat.le_refl _,hid ⟨HO2.out,Hkw.out⟩,hid rfl⟩
 case round=>
  obtain⟨i,acc,A,cp,rfl,rfl,hi,hai,HR,HE⟩:=hrel
  by_cases hlt:i<al.length
  ·have hltI:(i:Int)<(al.length:Int):=by omega
   obtain⟨⟨tx,p⟩,hx⟩:∃x,al[i]? =some x:=⟨_,List.getElem?_eq_getElem hlt⟩;obtain⟨b,off,hv,hb,hc⟩:=SlAt.rec (f:=tokC) (fun _ _=>rfl) (HS.out.keep HR.out.2 (fun b hb=>hb.2)) i _ hx;subst hv;have hst:=wordsF_step al i _ hx;have a0:=hc 0 _ rfl;have a1:=hc 1 _ rfl;have a2:=hc 2 _ rfl;simp only[Nat.add_zero]at a0;have hbr:=hb.2;have hw1r:=HR.out.2.size;have hb3:b<wr.heap.size:=by omega
   clear hc hb hx;rw[←HE.out]at hst;clear HE
   cases hsp:stopP tx with
   |true=>
    rw[if_pos hsp,List.append_nil]at hst;have Hst:=hid hst;have Hsp:=hid hsp;clear hst hsp
    go_wp2_with fail
    refine(ref6_stop tx wr).mono ?_;rintro e w3 ⟨rfl,hk3⟩;have hR3:=HR.out.calls hk3;rw[Hsp.out];clear HR hk3 a0 a1 a2;have HR3:=hid hR3;clear hR3
    go_wp2_with fail
    go_roundw
    case rel=>exact⟨i+1,acc,A,cp,rfl,by go_num,by omega,by omega,HR3,hid Hst.out.symm⟩
    case measure=>exact msA
   |false=>
    rw[if_neg (by rw[hsp];decide)]at hst
    have Hst:=hid hst;have Hsp:=hid hsp;clear hst hsp
    go_wp2_with fail
    refine(ref6_stop tx wr).mono ?_;rintro e w3 ⟨rfl,hk3⟩;have hR3:=HR.out.calls hk3;have b0:=(World.cell?_of_block (a:=⟨b,off+i*3,none⟩) (hk3.block b hb3)).trans a0;have b1:=(World.cell?_of_block (a:=⟨b,off+i*3+1,none⟩) (hk3.block b hb3)).trans a1;have b2:=(World.cell?_of_block (a:=⟨b,off+i*3+2,none⟩) (hk3.block b hb3)).trans a2;rw[Hsp.out];clear HR hk3 a0 a1 a2
    have HR3:=hid hR3;clear hR3;obtain⟨i0,hi,hz0,hz1,hz2⟩:=info_partsF Tryz.infoTok
    go_wp2_with (at_builtin;go_must (refine wpList_append_own_at _ rfl _ _ 117 rfl (w1.heap.size) 128 i0 (.agg #[.int .u8 0,.string ⟨#[]⟩,I 0]) 3 32 Tryz.underlying117 hi hz0 hz1 hz2 rfl (by decide) (.slice A acc.length cp) acc.length (acc.flatMap tokC) rfl (ownB_keepS HR3.out.1 ((Keeps.refl _ _).alloc (fun b hb=>hb) _)) ⟨w3.heap.size,0,none⟩ 1 1 [.int .u8 0,.string tx,I (p:Int)] rfl (by simp) (own_newsS (own_lit w3 0 _ _ 3 1 [.int .u8 0,.string tx,I (p:Int)] rfl rfl (by decide) (Nat.zero_le _))) ?_ ?_ ?_ ?_ ?_))
    all_goals(try(first|with_reducible exact one1 _ _|with_reducible exact one2 _ _ _|with_reducible exact one4 _ _ _ _ _|with_reducible exact oneM _ _|exact rfl|exact fun _ _=>rfl|exact⟨rfl,rfl⟩|exact⟨rfl,rfl,rfl⟩|exact⟨rfl,rfl,rfl,rfl⟩|(unfold maxLen;omega)|omega|(simp;omega)|(simp;done)))
    (try clear hi)
    (try clear hz0)
    (try clear hz1)
    (try clear hz2)
    all_goals(try(first|exact oneTok (tx,p)|(have:=hai;simp only[maxLen];omega)|(have:=HR3.out.2.size;simp only[World.size_alloc];omega)))
    intro v' w7 hown hgr _ hf;have hN:=HR3.out.push (x:=(tx,p)) hown hgr;obtain⟨A',cp',rfl⟩:=ownB_form hown;clear hown hgr hf HR3;have HN:=hid hN;clear hN
    go_wp2_with fail
    go_roundw
    case rel=>exact⟨i+1,acc++[(tx,p)],A',cp',by simp,by go_num,by omega,by simp;omega,by simpa using HN,hid Hst.out.symm⟩
    case measure=>exact msA
  ·obtain rfl:i=al.length:=by omega
   have hltI:¬(al.length:Int)<(al.length:Int):=by omega
   have he:=HE.out;rw[List.take_length]at he;subst he
   go_wp2_with fail
   exact hR'.out _ _ ⟨_,rfl,HR.out.back Hk1.out⟩
def refL:Nat→Nat→Nat→V6→V6
 |0,_,_,out=>out
 |n+1,left,k,out=>if left=0 then refL n (sz k-2) (min (k+1) 3) (out.up k (szK k))else refL n (left-1) k out
theorem refL_rest:∀(m n left k:Nat) (out:V6),m≤left→refL (m+n) left k out=refL n (left-m) k out:=by
 intro m
 induction m with
 |zero=>intro n left k out _;rw[Nat.zero_add,Nat.sub_zero]
 |succ m ih=>
  intro n left k out h;rw[show m+1+n=(m+n)+1 from by omega,refL,if_neg (by omega),ih _ _ _ _ (by omega),show left-1-m=left-(m+1)from by omega]
theorem needL_ref:∀(f n room k:Nat) (out:V6),k≤3→n+(if room=0 then 1 else 0)<f→needL f (n:Int) (room:Int) k out=refL n room k out:=by
 intro f
 induction f with
 |zero=>intro n room k out _ h;omega
 |succ f ih=>
  intro n room k out hk h;have hs:=sz_ge hk;have hz:=szK_eq hk;rw[needL]
  by_cases hgt:n>room
  ·rw[if_pos (by omega),show(n:Int)-(room:Int)=((n-room:Nat):Int)from by omega,hz,show(sz k:Int)-1=((sz k-1:Nat):Int)from by omega,ih _ _ _ _ (by omega) (by rw[if_neg (by omega)];split at h<;>omega)]
   obtain⟨m,hm⟩:∃m,n-room=m+1:=⟨n-room-1,by omega⟩
   have e1:refL n room k out=refL (m+1) 0 k out:=by
    have:=refL_rest room (n-room) room k out (Nat.le_refl _);rw[show room+(n-room)=n from by omega,Nat.sub_self,hm]at this
    exact this
   rw[e1,hm,refL,if_neg (by omega),show refL (m+1) 0 k out=refL m (sz k-2) (min (k+1) 3) (out.up k (szK k))from by rw[refL,if_pos rfl],hz,show sz k-1-1=sz k-2 from by omega]
  ·rw[if_neg (by omega)]
   have:=refL_rest n 0 room k out (by omega)
   rw[Nat.add_zero]at this;rw[this];rfl
theorem needL_neg (f:Nat)(n room:Int)(k:Nat)(out:V6)(h:n≤0)(hr:0≤room):needL f n room k out=out:=by
 cases f with
 |zero=>rfl
 |succ f=>rw[needL,if_neg (by omega)]
def leftOf:Option (Nat×Nat×Nat)→Nat
 |none=>0
 |some (k,_,a)=>sz k-1-a
def classOf:Option (Nat×Nat×Nat)→Nat
 |none=>0
 |some (k,_,_)=>min (k+1) 3
def V6.add (u v:V6):V6:=⟨u.a0+v.a0,u.a1+v.a1,u.a2+v.a2,u.a3+v.a3,u.a4+v.a4,u.a5+v.a5⟩
theorem V6.add_up (u v:V6)(k:Nat)(z:Int):u.add (v.up k z)=(u.add v).up k z:=by
 unfold V6.add V6.up
 split<;>simp<;>omega
theorem refL_add:∀(n left k:Nat) (u v:V6),refL n left k (u.add v)=u.add (refL n left k v):=by
 intro n
 induction n with
 |zero=>intro _ _ _ _;rfl
 |succ n ih=>
  intro left k u v;rw[refL,refL]
  split
  ·rw[←V6.add_up,ih]
  ·rw[ih]
theorem V6.add_zero (u:V6):u.add zerosN=u:=by unfold V6.add zerosN;simp
theorem up_ge (u:V6)(c:Nat)(z:Int)(hz:0≤z)(k:Nat):u.uK k≤(u.up c z).uK k:=by
 unfold V6.up V6.uK
 split<;>split<;>simp<;>omega
theorem refL_ge:∀(n left k:Nat) (u:V6) (i:Nat),u.uK i≤(refL n left k u).uK i:=by
 intro n
 induction n with
 |zero=>intro _ _ _ _;exact Int.le_refl _
 |succ n ih=>
  intro left k u i;rw[refL]
  split
  ·exact Int.le_trans (up_ge u k _ (by have:=szK_bd k;omega) i) (ih _ _ _ _)
  ·exact ih _ _ _ _
theorem atL_of {cs:List Int}{a:Int}{i:Nat}{x:Int}(ha:a=(i:Int))(h:cs[i]? =some x):atL cs a=(x,true):=by
 obtain⟨h1,h2⟩:=getD_of h;unfold atL;rw[if_pos ⟨by omega,by omega⟩,ha,Int.toNat_natCast,h2]
theorem cmpL_of {cs:List Int}{a:Nat}:∀(L2 L1:List Int) (k:Nat),L1.length=L2.length→(∀(j:Nat) c,L1[j]? =some c→cs[a+2+k+j]? =some c)→cmpL cs (a:Int) L2 k=(decide (L1=L2),true)
 | [],L1,k,hl,_=>by
  have:L1=[]:=List.length_eq_zero_iff.1 hl;subst this
  rfl
 |c::L2,[],k,hl,_=>by simp at hl
 |c::L2,d::L1,k,hl,h=>by
  have e:atL cs ((a:Int)+2+k)=(d,true):=atL_of (i:=a+2+k+0) (by omega) (h 0 d rfl)
  unfold cmpL;rw[e,if_neg (fun h=>Bool.noConfusion h)]
  by_cases hdc:d=c
  ·subst hdc;rw[if_neg (by simp),cmpL_of L2 L1 (k+1) (by simpa using hl) (fun j c hj=>by
    have:=h (j+1) c (by simpa using hj)
    rw[←this,show a+2+(k+1)+j=a+2+k+(j+1) by omega])]
   simp
  ·rw[if_pos hdc]
   simp[hdc]
theorem isL_of {cs:List Int}{s n:Nat}{t:Tab}{lo hi:Nat}(R:Rep cs s n t lo hi){i a:Nat}{k:List Int}(hi':i<n)(e:t i=some (k,a))(key:ByteArray):isL cs (a:Int) key=(decide (k=bsL key),true):=by
 obtain⟨r1,r2,r3,r4⟩:=R.lies _ _ _ hi' e;have h1:atL cs ((a:Int)+1)=((k.length:Int),true):=atL_of (i:=a+1) (by omega) (R.size _ _ _ hi' e)
 unfold isL;rw[h1,if_neg (fun h=>Bool.noConfusion h)]
 by_cases hl:k.length=key.size
 ·rw[if_neg (by simp[hl])]
  have hpl:(packC k).length=(packC (bsL key)).length:=by rw[packC_len,packC_len,bsL_len,hl]
  rw[cmpL_of (packC (bsL key)) (packC k) 0 hpl (fun j c hj=>R.key _ _ _ hi' e j c hj)];have:(packC k=packC (bsL key))↔(k=bsL key):=⟨fun h=>packC_inj r4 (bsL_range key) (by rw[hl,bsL_len]) h,fun h=>by rw[h]⟩
  simp[this]
 ·rw[if_pos (by simp;omega)]
  have:k≠bsL key:=fun h=>hl (by rw[h,bsL_len])
  simp[this]
theorem findL_of {cs:List Int}{s n:Nat}{t:Tab}{lo hi:Nat}(R:Rep cs s n t lo hi)(hn:0<n)(h:Nat)(key:ByteArray):∀(f i:Nat),findL cs (s:Int) n h key f i=((probe t n h (bsL key) f i).1,(probe t n h (bsL key) f i).2,true)
 |0,i=>rfl
 |f+1,i=>by
  have hlt:(h+i)%n<n:=Nat.mod_lt _ hn;have ih:=findL_of R hn h key f (i+1);unfold findL
  cases e:t ((h+i)%n)with
  |none=>
   have h1:atL cs ((s:Int)+(((h+i)%n:Nat):Int))=(0,true):=atL_of (i:=s+(h+i)%n) (by omega) (R.void _ hlt e)
   rw[h1,probe_none e]
   simp
  |some pr=>
   obtain⟨k,a⟩:=pr;obtain⟨r1,r2,r3,r4⟩:=R.lies _ _ _ hlt e;have hpos:=R.pos;have h1:atL cs ((s:Int)+(((h+i)%n:Nat):Int))=((a:Int),true):=atL_of (i:=s+(h+i)%n) (by omega) (R.slot _ _ _ hlt e)
   have h2:=isL_of R hlt e key;rw[h1];dsimp only;rw[h2,if_neg (fun h=>Bool.noConfusion h),if_neg (by omega)]
   by_cases hk:k=bsL key
   ·subst hk;rw[probe_hit e]
    simp
   ·rw[probe_miss e hk,ih]
    simp[hk]
theorem findD_cost {cs:List Int}{s n:Nat}{t:Tab}{lo hi:Nat}(R:Rep cs s n t lo hi)(hn:0<n)(h:Nat)(key:List Int)(hk:∀x∈key,Byte x):∀(f i:Nat),
  ∃cnt,cnt≤f*(2+(packC key).length)∧(findD s n h (packC key) key.length f i).ideal cs=some (probe t n h key f i,cs,cnt)
 |0,i=>⟨0,by omega,rfl⟩
 |f+1,i=>by
  have hlt:(h+i)%n<n:=Nat.mod_lt _ hn;obtain⟨cnt,hc,hi'⟩:=findD_cost R hn h key hk f (i+1);have hmul:(f+1)*(2+(packC key).length)=f*(2+(packC key).length)+(2+(packC key).length):=Nat.succ_mul _ _;rw[hmul];generalize f*(2+(packC key).length)=F at hc ⊢
  cases e:t ((h+i)%n)with
  |none=>
   refine⟨1,by omega,?_⟩
   rw[probe_none e];unfold findD;rw[load_ideal (i:=s+(h+i)%n) (by omega) (R.void _ hlt e)]
   rfl
  |some p=>
   obtain⟨k,a⟩:=p;obtain⟨r1,r2,r3,r4⟩:=R.lies _ _ _ hlt e;have hpos:=R.pos;unfold findD;rw[load_ideal (i:=s+(h+i)%n) (by omega) (R.slot _ _ _ hlt e)]
   have step2:(Tree.load ((a:Int)+1) fun ln=>if ln≠(key.length:Int)then findD s n h (packC key) key.length f (i+1)else
     (cmpD a (packC key) 0).bind fun ok=>if ok=true then .ret ((a:Int),(((h+i)%n:Nat):Int))else findD s n h (packC key) key.length f (i+1)).ideal cs=
     ((if(k.length:Int)≠(key.length:Int)then findD s n h (packC key) key.length f (i+1)else
     (cmpD a (packC key) 0).bind fun ok=>if ok=true then .ret ((a:Int),(((h+i)%n:Nat):Int))else findD s n h (packC key) key.length f (i+1)).ideal cs).map fun y=>(y.1,y.2.1,y.2.2+1):=
    load_ideal (i:=a+1) (by omega) (R.size _ _ _ hlt e)
   have hz:((a:Int)=0)=False:=by simp;omega
   have inner:∃c2,c2≤F+1+(packC key).length∧(Tree.load ((a:Int)+1) fun ln=>if ln≠(key.length:Int)then findD s n h (packC key) key.length f (i+1)else
     (cmpD a (packC key) 0).bind fun ok=>if ok=true then .ret ((a:Int),(((h+i)%n:Nat):Int))else findD s n h (packC key) key.length f (i+1)).ideal cs=some (probe t n h key (f+1) i,cs,c2):=by
    rw[step2]
    by_cases hl:k.length=key.length
    ·rw[if_neg (by simp[hl])]
     have hpl:(packC k).length=(packC key).length:=by rw[packC_len,packC_len,hl]
     obtain⟨m,hm,hmi⟩:=cmpD_ideal (cs:=cs) (a:=a) (packC key) (packC k) 0 hpl (fun j c hj=>R.key _ _ _ hlt e j c hj);rw[Tree.ideal_bind,hmi];exact c98
    ·rw[if_pos (by omega),hi',probe_miss e (fun e=>hl (by rw[e]))]
     exact⟨cnt+1,by omega,rfl⟩
   obtain⟨c2,h1,h2⟩:=inner;refine⟨c2+1,by omega,?_⟩
   have:((fun a:Int=>Tree.off fun o=>if o=true then .ret ((0:Int),(-1:Int))else if a=0 then .ret ((0:Int),(((h+i)%n:Nat):Int))else
    .load (a+1) fun ln=>if ln≠(key.length:Int)then findD s n h (packC key) key.length f (i+1)else
    (cmpD a (packC key) 0).bind fun ok=>if ok=true then .ret (a,(((h+i)%n:Nat):Int))else findD s n h (packC key) key.length f (i+1)) (a:Int)).ideal cs=some (probe t n h key (f+1) i,cs,c2):=by
    show(if false=true then _ else if(a:Int)=0 then _ else _:Tree (Int×Int)).ideal cs=_
    rw[if_neg (by decide),if_neg (by rw[hz];exact id)]
    exact h2
   rw[this];rfl
theorem findK_ideal {cs:List Int}{s n:Nat}{t:Tab}{lo hi:Nat}(R:Rep cs s n t lo hi)(hn:0<n)(key:ByteArray):∃cnt,cnt≤n*(2+(key.size+3)/4)∧
  (findK (s:Int) n key).ideal cs=some (probe t n (homeD n (bsL key)) (bsL key) n 0,cs,cnt):=by
 obtain⟨cnt,h1,h2⟩:=findD_cost R hn (homeD n (bsL key)) (bsL key) (bsL_range key) n 0;rw[packC_len,bsL_len]at h1;rw[bsL_len]at h2;exact⟨cnt,h1,h2⟩
set_option maxRecDepth 100000 in
set_option maxHeartbeats 1000000 in
theorem write_base (x:SegM)(w:World)(ha:Small x.addr):Z 31 #[.agg #[I x.addr,I x.docs,.bool x.sealed]] w fun e w'=>e= .returned (I x.base)∧Keeps (· <w.heap.size) w w':=by
 obtain⟨addr,docs,sealed⟩:=x;have hk:Keeps (· <w.heap.size) w (w.alloc (.cells #[I addr,I docs,.bool sealed] 65)):=(Keeps.refl _ _).alloc (fun b hb=>hb) _;obtain⟨h0,h1⟩:=ha;dsimp only at h0 h1;have Hk:=hid hk;clear hk;refine calls_hide fun R' hR'=>?_
 go_enter Tryz.func31,Tryz.ntmps31
 cases sealed with
 |true=>
  go_wp2_with fail
  exact hR'.out _ _ ⟨rfl,Hk.out⟩
 |false=>
  go_wp2_with fail
  exact hR'.out _ _ ⟨rfl,Hk.out⟩
theorem placeT_cons (id:Int)(x:SegM)(l:List SegM)(i:Nat)(s:St):(placeT id (x::l) i).exec s=if 0≤((findT x.base id x.docs 0).exec s).1 then(((i:Int),((findT x.base id x.docs 0).exec s).1,true),((findT x.base id x.docs 0).exec s).2)else(placeT id l (i+1)).exec ((findT x.base id x.docs 0).exec s).2:=by
 show((findT x.base id x.docs 0).bind _).exec s=_;rw[Tree.exec_bind]
 split<;>rfl
theorem SegM.len3 (l:List SegM):∀x∈l,x.cells.length=3:=fun _ _=>rfl
theorem Small.base {x:SegM}(h: -1099511627700≤x.addr∧x.addr≤1099511627700):Small x.base:=by
 unfold SegM.base Small
 split<;>omega
theorem findT_range (b id:Int):∀(n d:Nat) (s:St),-1≤((findT b id n d).exec s).1∧((findT b id n d).exec s).1≤(n+d:Nat)
 |0,d,s=>⟨Int.le_refl _,by show(-1:Int)≤_;omega⟩
 |n+1,d,s=>by
  rw[findT_step]
  split
  ·exact⟨Int.le_refl _,by show(-1:Int)≤_;omega⟩
  ·split
   ·exact⟨by show(-1:Int)≤(d:Int);omega,by show(d:Int)≤_;omega⟩
   ·have:=findT_range b id n (d+1) (s.load (b+4*d+1)).2;exact⟨this.1,by have:=this.2;omega⟩
set_option maxRecDepth 100000 in
set_option maxHeartbeats 4000000 in
theorem write_place {w:World}{K:Nat→Prop}{r m c:Nat}{s:St}(h:RM w K r m c s)(W:WrM)(A:Option Addr)(cp:Nat)(id:Int)(hsl:SlAt w K 3 (.slice A W.segs.length cp) W.segs.length (W.segs.flatMap SegM.cells))
  (hok:∀x∈W.segs,(-1099511627700≤x.addr∧x.addr≤1099511627700)∧x.docs≤65536) (hn:W.segs.length≤65536) (hi:U32 id):
  Z 45 #[.pointer (some ⟨r,0,none⟩),.agg (W.vals (.slice A W.segs.length cp)).toArray,J id] w fun e w'=>
   e= .returned (.tuple #[I ((placeT id W.segs 0).exec s).1.1,I ((placeT id W.segs 0).exec s).1.2.1,.bool ((placeT id W.segs 0).exec s).1.2.2])∧RM w' K r m c ((placeT id W.segs 0).exec s).2∧Keeps K w w':=by
 obtain⟨segs,wt,wv,u0,u1,u2,u3,u4,u5⟩:=W;dsimp only at hsl hok hn ⊢;have hw0:(WrM.mk segs wt wv ⟨u0,u1,u2,u3,u4,u5⟩).vals (.slice A segs.length cp)=[.slice A segs.length cp,I wt,J wv,I u0,I u1,I u2,I u3,I u4,I u5]:=rfl;rw[hw0];clear hw0;have hlt:=h.lt;have hkw:Keeps K w (w.alloc (.cells #[.slice A segs.length cp,I wt,J wv,I u0,I u1,I u2,I u3,I u4,I u5] 46)):=(Keeps.refl _ _).alloc hlt _
 have hr1:RM (w.alloc (.cells #[.slice A segs.length cp,I wt,J wv,I u0,I u1,I u2,I u3,I u4,I u5] 46)) K r m c s:=h.alloc _;obtain⟨t,ht⟩:∃t,t=(placeT id segs 0).exec s:=⟨_,rfl⟩;rw[←ht];have Hsl:=hid hsl;have Hok:=hid hok;have Hlt:=hid hlt;have Hkw:=hid hkw;have Hr1:=hid hr1;have Ht:=hid ht;have Hi:=hid hi;clear hsl hok hlt hkw hr1 ht hi;clear h;refine calls_hide fun R' hR'=>?_
 go_enter Tryz.func45,Tryz.ntmps45
 go_wp2_with fail
 go_loopw[15] (fun iv wx=>∃(i:Nat) (s':St),iv=I (i:Int)∧i≤segs.length∧Hid (t=(placeT id (segs.drop i) i).exec s')∧Hid (RM wx K r m c s')∧Hid (Keeps K w wx)) (fun iv _=>segs.length-(intOf iv).toNat)
 case atStart=>exact⟨0,s,rfl,Nat.zero_le _,Ht,Hr1,Hkw⟩
 case round=>
  obtain⟨i,s',rfl,hile,HT,HR,HK⟩:=hrel
  by_cases hil:i<segs.length
  ·have hilI:(i:Int)<(segs.length:Int):=by omega
   obtain⟨x,hx⟩:∃x,segs[i]? =some x:=⟨_,List.getElem?_eq_getElem hil⟩;obtain⟨b0,o0,rfl,hkb,g1⟩:=SlAt.rec (SegM.len3 segs) Hsl.out i x hx;obtain⟨⟨x0,x1⟩,x2⟩:=Hok.out x (List.mem_of_getElem? hx);have hh0:=Hlt.out _ hkb;have hst:t=if 0≤((findT x.base id x.docs 0).exec s').1 then(((i:Int),((findT x.base id x.docs 0).exec s').1,true),((findT x.base id x.docs 0).exec s').2)else(placeT id (segs.drop (i+1)) (i+1)).exec ((findT x.base id x.docs 0).exec s').2:=by
    obtain⟨h9,h8⟩:=List.getElem?_eq_some_iff.1 hx;rw[HT.out,List.drop_eq_getElem_cons h9,h8,placeT_cons]
   have hfr:=findT_range x.base id x.docs 0 s';have hbs:=Small.base ⟨x0,x1⟩;have zz114:=PLift.up @c580;exact c579
  ·obtain rfl:i=segs.length:=by omega
   have hilI:¬(segs.length:Int)<(segs.length:Int):=by omega
   have hres:t=((0,0,false),s'):=by rw[HT.out,List.drop_length];rfl
   clear HT;have Hres:=hid hres;clear hres
   go_wp2_with fail
   exact hR'.out _ _ ⟨by first|(rw[Hres.out];done)|(rw[Hres.out];rfl),by rw[Hres.out];exact HR.out,HK.out⟩
theorem Tryz.infoTerm:(Tryz.prog.info? 154).map (fun i=>(i.zero,i.size,i.bytes))=some (some (.agg #[.string ⟨#[]⟩,I 0,I 0,I 0]),4,40):=by kernel_rfl
theorem TermM.len4 (t:TermM):t.cells.length=4:=rfl
def TermOwn (w:World)(K:Nat→Prop)(v:Value)(l:List TermM):Prop:=
 w.ownsRow 0 154 4 v l.length (l.flatMap TermM.cells)∧∀b,v.ownBlock=some b→¬K b
theorem bsL_key (f:Int)(t:ByteArray)(h:0≤f∧f≤255):bsL (keyB f t)=f::bsL t:=by
 unfold bsL keyB;rw[ByteArray.data_append,Array.toList_append,List.map_append];show((UInt8.ofNat f.toNat).toNat:Int)::_=_;rw[UInt8.toNat_ofNat',Nat.mod_eq_of_lt (by omega)]
 congr 1
 omega
theorem key_of {s t:ByteArray}{f:Int}(h:0≤f∧f≤255)(e:bsL s=f::bsL t):s=keyB f t:=bsL_inj (e.trans (bsL_key f t h).symm)
theorem keyB_size (f:Int)(t:ByteArray):(keyB f t).size=t.size+1:=by
 unfold keyB;rw[ByteArray.size_append];show 1+t.size=_
 omega
theorem keyIx_at {key:ByteArray}{l:List TermM}{i:Nat}{t:TermM}(h:l[i]? =some t)(he:(t.key.toList==key.toList)=true)(hn:∀j t',j<i→l[j]? =some t'→(t'.key.toList==key.toList)=false):keyIx key l=i:=by
 obtain⟨hi,ht⟩:=List.getElem?_eq_some_iff.1 h;unfold keyIx;rw[List.findIdx_eq hi];refine⟨by rw[ht];exact he,fun j hj=>?_⟩
 have hjl:j<l.length:=by omega
 rw[hn j l[j] hj (List.getElem?_eq_getElem hjl)]
theorem keyIx_none {key:ByteArray}{l:List TermM}(hn:∀j t',j<l.length→l[j]? =some t'→(t'.key.toList==key.toList)=false):l[keyIx key l]? =none:=by
 have:keyIx key l=l.length:=by
  unfold keyIx;rw[List.findIdx_eq_length];intro x hx;obtain⟨j,hj,rfl⟩:=List.getElem_of_mem hx;rw[hn j _ hj (List.getElem?_eq_getElem hj)]
 rw[this,List.getElem?_eq_none (Nat.le_refl _)]
theorem termsT_cons (s0:Int)(n:Nat)(x:TokI)(l:List TokI)(out:List TermM)(s:St):(termsT s0 n (x::l) out).exec s=match out[keyIx (keyB x.1 x.2.1) out]? with
  |some t=>(termsT s0 n l (out.set (keyIx (keyB x.1 x.2.1) out) { t with cnt:=t.cnt+1 })).exec s
  |none=>(termsT s0 n l (out++[((lookT s0 n (keyB x.1 x.2.1)).exec s).1])).exec ((lookT s0 n (keyB x.1 x.2.1)).exec s).2:=by
 have e:termsT s0 n (x::l) out=match out[keyIx (keyB x.1 x.2.1) out]? with
  |some t=>termsT s0 n l (out.set (keyIx (keyB x.1 x.2.1) out) { t with cnt:=t.cnt+1 })
  |none=>(lookT s0 n (keyB x.1 x.2.1)).bind fun t=>termsT s0 n l (out++[t]):=rfl
 rw[e]
 cases out[keyIx (keyB x.1 x.2.1) out]? with
 |some t=>rfl
 |none=>exact Tree.exec_bind _ _ _
theorem lookT_exec (s0:Int)(n:Nat)(key:ByteArray)(s:St):(lookT s0 n key).exec s=if((findK s0 n key).exec s).1.1=0 then(⟨key,0,0,1⟩,((findK s0 n key).exec s).2)else(⟨key,((findK s0 n key).exec s).1.1,(((findK s0 n key).exec s).2.load ((findK s0 n key).exec s).1.1).1,1⟩,(((findK s0 n key).exec s).2.load ((findK s0 n key).exec s).1.1).2):=by
 unfold lookT;rw[Tree.exec_bind]
 split<;>rfl
set_option maxRecDepth 100000 in
set_option maxHeartbeats 4000000 in
theorem write_terms {w:World}{K:Nat→Prop}{r m c:Nat}{s:St}(h:RM w K r m c s)(s0:Int)(n:Nat)(toks:List TokI)(A:Option Addr)(cp:Nat)(hsl:SlAt w K 3 (.slice A toks.length cp) toks.length (toks.flatMap tokI))
  (hs:0≤s0∧s0≤65536) (hn:1≤n∧n≤65536) (ht:∀t∈toks,(0≤t.1∧t.1≤255)∧t.2.1.size≤1000) (hl:toks.length≤65536):
  Z 51 #[.pointer (some ⟨r,0,none⟩),I s0,I n,.slice A toks.length cp] w fun e w'=>
   ∃v,e= .returned v∧RM w' (fun b=>K b∨v.ownBlock=some b) r m c ((termsT s0 n toks []).exec s).2∧TermOwn w' K v ((termsT s0 n toks []).exec s).1∧Keeps K w w':=by
 have hfind:=fun(W:World) (K':Nat→Prop) (s':St) (hW:RM W K' r m c s') (t:ByteArray) (ht:t.size≤2000)=>dict_find hW s0 n t hs hn (by omega)
 generalize hres:(termsT s0 n toks []).exec s=res;have hlt:=h.lt;have hcp:=hsl.capOf;unfold maxLen at hcp;obtain⟨hcp0,hcp1⟩:=hcp;obtain⟨hs0,hs1⟩:=hs;obtain⟨hn0,hn1⟩:=hn;have hR0:RM w (fun b=>K b∨(Value.slice none 0 0).ownBlock=some b) r m c s:=h.mono (fun b hb=>hb.resolve_right (by intro e;cases e))
 have Hsl:=hid hsl;have Ht:=hid ht;have Hfind:=hid hfind;have Hlt:=hid hlt;have Hres:=hid hres;have HR0:=hid hR0;clear hsl ht hfind hlt hres hR0;clear h;refine calls_hide fun R' hR'=>?_
 go_enter Tryz.func51,Tryz.ntmps51
 go_wp2_with fail
 go_step3
 go_wp2_with fail
 go_step3
 go_wp2_with fail
 go_loopw[9,17] (fun ov iv wx=>∃(i:Nat) (s':St) (out:List TermM) (A':Option Addr) (cp':Nat),ov= .slice A' out.length cp'∧iv=I (i:Int)∧i≤toks.length∧out.length≤i∧Hid (∀t∈out,0≤t.cnt∧t.cnt≤(i:Nat))∧Hid ((termsT s0 n (toks.drop i) out).exec s'=res)∧
   Hid (RM wx (fun b=>K b∨(Value.slice A' out.length cp').ownBlock=some b) r m c s')∧Hid (TermOwn wx K (.slice A' out.length cp') out)∧Hid (Keeps K w wx)) (fun _ iv _=>toks.length-(intOf iv).toNat)
 case atStart=>exact⟨0,s,[],none,0,rfl,rfl,Nat.zero_le _,Nat.zero_le _,hid (fun t ht=>by cases ht),Hres,HR0,hid ⟨World.ownsRow_nil _ _ _ _,fun b hb=>by cases hb⟩,hid (Keeps.refl _ _)⟩
 case round=>
  obtain⟨i,s',out,A',cp',rfl,rfl,hi,hol,HC,HX,HR,HO,HK⟩:=hrel
  by_cases hlt:i<toks.length
  ·have hltI:(i:Int)<(toks.length:Int):=by omega
   obtain⟨⟨tf,tt,tp⟩,hx⟩:∃x,toks[i]? =some x:=⟨_,List.getElem?_eq_getElem hlt⟩;obtain⟨b0,o0,rfl,hkb,g1⟩:=SlAt.rec (f:=tokI) (fun _ _=>rfl) Hsl.out i _ hx;obtain⟨⟨tf0,tf1⟩,tts⟩:=Ht.out _ (List.mem_of_getElem? hx);dsimp only at tf0 tf1 tts;have hh0:=Hlt.out _ hkb;have zz114:=PLift.up @c581;exact c579
  ·obtain rfl:i=toks.length:=by omega
   have hltI:¬(toks.length:Int)<(toks.length:Int):=by omega
   have hfin:(out,s')=res:=by rw[←HX.out,List.drop_length];rfl
   clear HX HC;have Hfin:=hid hfin;clear hfin
   go_wp2_with fail
   exact hR'.out _ _ ⟨_,rfl,by rw[←Hfin.out];exact HR.out,by rw[←Hfin.out];exact HO.out,HK.out⟩
set_option maxHeartbeats 1000000 in
theorem same_key (t:TermM)(key:ByteArray)(kb:Nat)(w:World)(hk:w.cell? ⟨kb,0,none⟩=some (.string key))(hkl:kb<w.heap.size):
  Z 80 #[.agg #[.string t.key,I t.recd,I t.tl,I t.cnt],.pointer (some ⟨kb,0,none⟩)] w fun e w'=>e= .returned (.bool (t.key.toList==key.toList))∧Keeps (· <w.heap.size) w w':=by
 refine calls_hide fun R' hR'=>?_;obtain⟨tk,t1,t2,t3⟩:=t;dsimp only at*
 go_enter Tryz.func80,Tryz.ntmps80
 go_wp2_with fail
 exact hR'.out _ _ ⟨rfl,(Keeps.refl _ _).alloc (fun b hb=>hb) _⟩
theorem keyIx_min {key:ByteArray}{l:List TermM}{j:Nat}{t:TermM}(h:l[j]? =some t)(hj:j<keyIx key l):(t.key.toList==key.toList)=false:=by
 obtain⟨hl,rfl⟩:=List.getElem?_eq_some_iff.1 h;have:=List.not_of_lt_findIdx (p:=fun t:TermM=>t.key.toList==key.toList) (xs:=l) (i:=j) hj
 simpa using this
theorem keyIx_hit {key:ByteArray}{l:List TermM}{t:TermM}(h:l[keyIx key l]? =some t):(t.key.toList==key.toList)=true:=by
 obtain⟨hl,rfl⟩:=List.getElem?_eq_some_iff.1 h;exact List.findIdx_getElem (p:=fun t:TermM=>t.key.toList==key.toList) (xs:=l) (w:=hl)
set_option maxRecDepth 100000 in
set_option maxHeartbeats 2000000 in
theorem index_func (all:List TermM)(A:Option Addr)(cp:Nat)(key:ByteArray)(t0:TermM)(kb:Nat)(w:World)(hk:w.cell? ⟨kb,0,none⟩=some (.string key))(hkl:kb<w.heap.size)(hl:all.length≤65536)
  (hown:w.ownsRow 0 154 4 (.slice A all.length cp) all.length (all.flatMap TermM.cells)) (h0:all[keyIx key all]? =some t0):
  Z 79 #[.slice A all.length cp,.func (.func 80) #[] #[.pointer (some ⟨kb,0,none⟩)]] w fun e w'=>e= .returned (I (keyIx key all:Nat))∧Keeps (· <w.heap.size) w w':=by
 have hol:∀b,(Value.slice A all.length cp).ownBlock=some b→b<w.heap.size:=fun b hb=>(hown.lt b hb).2;have hkx:=(List.getElem?_eq_some_iff.1 h0).1;have Hown:=hid hown;have H0:=hid h0;have Hk:=hid hk;have Hol:=hid hol;clear hown h0 hk hol;refine calls_hide fun R' hR'=>?_
 go_enter Tryz.func79,Tryz.ntmps79
 go_wp2_with fail
 go_loopw[8] (fun iv wx=>∃(i:Nat),iv=I (i:Int)∧i≤keyIx key all∧Hid (Keeps (· <w.heap.size) w wx)) (fun iv _=>all.length-(intOf iv).toNat)
 case atStart=>exact⟨0,rfl,Nat.zero_le _,hid (Keeps.refl _ _)⟩
 case round=>
  obtain⟨i,rfl,hi,HK⟩:=hrel;have hlt:i<all.length:=by omega
  have hltI:(i:Int)<(all.length:Int):=by omega
  obtain⟨t,hx⟩:∃x,all[i]? =some x:=⟨_,List.getElem?_eq_getElem hlt⟩;have hO:=own_of_keep Hown.out HK.out Hol.out;obtain⟨g,rfl,gc⟩:=own_rec TermM.len4 hO hx;have a0:=gc 0 _ (by decide) rfl
  have a1:=gc 1 _ (by decide) rfl
  have a2:=gc 2 _ (by decide) rfl
  have a3:=gc 3 _ (by decide) rfl
  simp only[Nat.add_zero]at a0;have hcall:=fun W h1 h2=>same_key t key kb W h1 h2;have hmin:i<keyIx key all→(t.key.toList==key.toList)=false:=fun h=>keyIx_min hx h;have hhit:i=keyIx key all→(t.key.toList==key.toList)=true:=fun h=>by subst h;obtain rfl:=Option.some.inj (H0.out.symm.trans hx);exact keyIx_hit H0.out
  have hkw:=(World.cell?_of_block (a:=⟨kb,0,none⟩) (HK.out.block kb hkl)).trans Hk.out;have hks:=Nat.lt_of_lt_of_le hkl HK.out.size;obtain⟨tk,tr,tt,tc⟩:=t;dsimp only at hcall hmin hhit;have hc2:=hcall wr hkw hks;have a0:wr.cell? ⟨g,i*4,none⟩=some (.string tk):=a0;have a1:wr.cell? ⟨g,i*4+1,none⟩=some (I tr):=a1;have a2:wr.cell? ⟨g,i*4+2,none⟩=some (I tt):=a2
  have a3:wr.cell? ⟨g,i*4+3,none⟩=some (I tc):=a3;clear gc hcall hO hx hkw hks;generalize (tk.toList==key.toList)=bb at*
  by_cases hik:i=keyIx key all
  ·have hbb:=hhit hik;subst hbb;clear hmin hhit;have Hc2:=hid hc2;have Hik:=hid hik;clear hc2 hik
   go_wp2_with (go_at_call 80;refine Hc2.out.mono ?_;rintro e w2 ⟨rfl,hk2⟩)
   refine hR'.out _ _ ⟨?_,HK.out.trans (hk2.mono fun b hb=>Nat.lt_of_lt_of_le hb HK.out.size)⟩;rw[←Hik.out];rfl
  ·have hbb:=hmin (by omega)
   subst hbb;clear hmin hhit;have Hc2:=hid hc2;clear hc2
   go_wp2_with (go_at_call 80;refine Hc2.out.mono ?_;rintro e w2 ⟨rfl,hk2⟩)
   have hK2:=HK.out.trans (hk2.mono fun b hb=>Nat.lt_of_lt_of_le hb HK.out.size)
   go_roundw
   case rel=>exact⟨i+1,by go_num,by omega,hid hK2⟩
   case measure=>exact msA
theorem dict_put_any {w:World}{K:Nat→Prop}{r m c:Nat}{s:St}(h:RM w K r m c s)(p:PlanM)(u:V6)(s0 sl:Int)(t:ByteArray)(ht:t.size≤1000)
  (hu:UIn p u) (h3:p.size.a4≤65536) (hpb:0≤p.base.a4∧p.base.a4≤65536) (hs0:0≤s0∧s0≤65536) (hsl: -1≤sl∧sl≤65536):
  Z 81 #[.pointer (some ⟨r,0,none⟩),p.val,u.val,I s0,I sl,.string t] w fun e w'=>
   (∃x:Int,e= .returned (.tuple #[I ((dictPutT p u s0 sl t).exec s).1.1,V6.val ((dictPutT p u s0 sl t).exec s).1.2,I x]))∧
    RM w' K r m c ((dictPutT p u s0 sl t).exec s).2∧Keeps K w w':=by
 obtain⟨hu0,hu1⟩:=hu.2.2.2.2.1;unfold dictPutT
 split
 ·rename_i hh
  refine(dict_put_full h p u s0 sl t ht hu0 hu1 hh h3 ).mono ?_;rintro e w' ⟨rfl,h1,h2⟩;exact⟨⟨_,rfl⟩,h1,h2⟩
 ·rename_i hh
  refine(dict_put h p u s0 sl t ht hu0 (by omega) h3 hpb hs0 hsl).mono ?_
  exact c141
theorem dictPutT_ok {p:PlanM}{u:V6}{s0 sl:Int}{t:ByteArray}{s:St}(hu:UIn p u):UIn p ((dictPutT p u s0 sl t).exec s).1.2:=by
 unfold dictPutT
 split
 ·exact hu.zero
 ·rename_i hh
  rw[Tree.exec_bind];obtain⟨h0,h1,h2,h3,h4,h5⟩:=hu;show UIn p { u with a4:=u.a4+(2+(((t.size+3)/4:Nat):Int)) }
  unfold UIn;dsimp only
  omega
theorem key_same {s t:ByteArray}(h:(s.toList==t.toList)=true):s=t:=by
 have h:=eq_of_beq h;rw[ByteArray.toList_eq,ByteArray.toList_eq]at h;have h2:s.data=t.data:=Array.toList_inj.1 h
 cases s;cases t;simp_all
structure P1 (w W:World)(K:Nat→Prop)(r m c B B' kb:Nat)(A:Option Addr)(n cp:Nat)(p:PlanM)(u:V6)(x:TokI)(key:ByteArray)(all:List TermM)(s:St):Prop where
 rm:RM W (fun b=>(K b∨(Value.slice A n cp).ownBlock=some b)∨(B≤b∧b<B')) r m c s
 own:TermOwn W K (.slice A all.length cp) all
 kp:Keeps K w W
 b0:Blk W B p.flat
 b1:Blk W (B+1) u.list
 b2:Blk W (B+1+1) (tokI x)
 b3:Blk W (B+1+1+1) zero6.list
 bk:Blk W kb [.string key]
 len:all.length=n
 h0:B+1+1+1<kb∧kb<B'
 lt:∀b,K b∨(Value.slice A n cp).ownBlock=some b→b<B
theorem P1.keep {w W W':World}{K:Nat→Prop}{r m c B B' kb:Nat}{A:Option Addr}{n cp:Nat}{p:PlanM}{u:V6}{x:TokI}{key:ByteArray}{all:List TermM}{s s':St}(h:P1 w W K r m c B B' kb A n cp p u x key all s)
  (h1:RM W' (fun b=>(K b∨(Value.slice A n cp).ownBlock=some b)∨(B≤b∧b<B')) r m c s') (h2:Keeps (fun b=>(K b∨(Value.slice A n cp).ownBlock=some b)∨(B≤b∧b<B')) W W'):P1 w W' K r m c B B' kb A n cp p u x key all s':=by
 obtain⟨g1,g2⟩:=h.h0;refine⟨h1,⟨own_of_keep h.own.1 h2 fun b hb=>Or.inl (Or.inr (by rw[←h.len];exact hb)),h.own.2⟩,h.kp.trans (h2.mono fun b hb=>Or.inl (Or.inl hb)),h.b0.keep h2 (Or.inr (by omega)),h.b1.keep h2 (Or.inr (by omega)),h.b2.keep h2 (Or.inr (by omega)),h.b3.keep h2 (Or.inr (by omega)),h.bk.keep h2 (Or.inr (by omega)),h.len,h.h0,h.lt⟩
theorem P1.set {w W:World}{K:Nat→Prop}{r m c B B' kb g:Nat}{n cp:Nat}{p:PlanM}{u:V6}{x:TokI}{key:ByteArray}{all:List TermM}{s:St}(h:P1 w W K r m c B B' kb (some ⟨g,0,none⟩) n cp p u x key all s)
  {i j:Nat} {a a':TermM} {v:Value} (hi:all[i]? =some a) (hj:j<4) (he:a'.cells=a.cells.set j v):P1 w (W.setCell ⟨g,i*4+j,none⟩ v) K r m c B B' kb (some ⟨g,0,none⟩) n cp p u x key (all.set i a') s:=by
 obtain⟨g1,g2⟩:=h.h0;have hg:=h.lt g (Or.inr rfl);have hO:=own_recSet TermM.len4 h.own.1 (a':=a') (u:=v) hi hj he;have hne:∀b,B≤b→b≠g:=fun b hb e=>by omega
 refine⟨h.rm.setK (a:=⟨g,i*4+j,none⟩) (Or.inl (Or.inr rfl)) v,⟨hO,fun b hb=>h.own.2 b (by rw[List.length_set]at hb;exact hb)⟩,h.kp.setCell (p:=⟨g,i*4+j,none⟩) (h.own.2 g rfl) v,h.b0.set_ne v (hne _ (by omega)),h.b1.set_ne v (hne _ (by omega)),h.b2.set_ne v (hne _ (by omega)),h.b3.set_ne v (hne _ (by omega)),h.bk.set_ne v (hne _ (by omega)),by rw[List.length_set];exact h.len,h.h0,h.lt⟩
theorem P1.setU {w W:World}{K:Nat→Prop}{r m c B B' kb:Nat}{A:Option Addr}{n cp:Nat}{p:PlanM}{u:V6}{x:TokI}{key:ByteArray}{all:List TermM}{s:St}(h:P1 w W K r m c B B' kb A n cp p u x key all s)(a0 a1 a2 a3 a4 a5:Int):
  P1 w ((((((W.setCell ⟨B+1,0,none⟩ (I a0)).setCell ⟨B+1,1,none⟩ (I a1)).setCell ⟨B+1,2,none⟩ (I a2)).setCell ⟨B+1,3,none⟩ (I a3)).setCell ⟨B+1,4,none⟩ (I a4)).setCell ⟨B+1,5,none⟩ (I a5)) K r m c B B' kb A n cp p ⟨a0,a1,a2,a3,a4,a5⟩ x key all s:=by
 obtain⟨g1,g2⟩:=h.h0;have hb:(fun b=>(K b∨(Value.slice A n cp).ownBlock=some b)∨(B≤b∧b<B')) (B+1):=Or.inr (by omega)
 have hK:¬K (B+1):=fun hk=>by have:=h.lt _ (Or.inl hk);omega
 have ho:∀W':World,W'.ownsRow 0 154 4 (.slice A all.length cp) all.length (all.flatMap TermM.cells)→∀i v,(W'.setCell ⟨B+1,i,none⟩ v).ownsRow 0 154 4 (.slice A all.length cp) all.length (all.flatMap TermM.cells):=fun W' hW i v=>
  ownsRow_setCell_other hW (a:=⟨B+1,i,none⟩) (fun e=>by have:=h.lt (B+1) (Or.inr (by rw[←h.len];exact e));omega) v
 refine⟨(((((h.rm.setK (a:=⟨B+1,0,none⟩) hb _).setK (a:=⟨B+1,1,none⟩) hb _).setK (a:=⟨B+1,2,none⟩) hb _).setK (a:=⟨B+1,3,none⟩) hb _).setK (a:=⟨B+1,4,none⟩) hb _).setK (a:=⟨B+1,5,none⟩) hb _,
  ⟨ho _ (ho _ (ho _ (ho _ (ho _ (ho _ h.own.1 _ _) _ _) _ _) _ _) _ _) _ _,h.own.2⟩,h.kp.set6 _ _ _ _ _ _ hK,h.b0.set6_ne _ _ _ _ _ _ (by omega),h.b1.set6 _ _ _ _ _ _ rfl,h.b2.set6_ne _ _ _ _ _ _ (by omega),h.b3.set6_ne _ _ _ _ _ _ (by omega),h.bk.set6_ne _ _ _ _ _ _ (by omega),h.len,h.h0,h.lt⟩
theorem P1.drew {w W:World}{K:Nat→Prop}{r m c B B' kb:Nat}{A:Option Addr}{n cp:Nat}{p:PlanM}{u:V6}{x:TokI}{key:ByteArray}{all:List TermM}{s:St}(h:P1 w W K r m c B B' kb A n cp p u x key all s):P1 w W.drew K r m c B B' kb A n cp p u x key all s:=
 h.keep h.rm.drew (Keeps.refl _ _).drew
def S7 (B g o:Nat)(p:PlanM)(u:V6)(tt:Int)(W:World):Prop:=(e0_15 W B (.int .i64 p.base.a0) (.int .i64 p.base.a1) (.int .i64 p.base.a2) (.int .i64 p.base.a3) (.int .i64 p.base.a4) (.int .i64 p.base.a5) (.int .i64 p.size.a0) (.int .i64 p.size.a1) (.int .i64 p.size.a2) (.int .i64 p.size.a3) (.int .i64 p.size.a4) (.int .i64 p.size.a5) (.int .i64 p.cells) (.int .i64 p.slots) (.int .i64 p.live) (e0_6 W (B+1) (.int .i64 u.a0) (.int .i64 u.a1) (.int .i64 u.a2) (.int .i64 u.a3) (.int .i64 u.a4) (.int .i64 u.a5) (W.cell? ⟨g,o,none⟩=some (.int .i64 tt))))
theorem P1.s7 {w W:World}{K:Nat→Prop}{r m c B B' kb g:Nat}{n cp:Nat}{p:PlanM}{u:V6}{x:TokI}{key:ByteArray}{all:List TermM}{s:St}(h:P1 w W K r m c B B' kb (some ⟨g,0,none⟩) n cp p u x key all s){i:Nat}{t:TermM}(hi:all[i]? =some t):S7 B g (i*4+2) p u t.tl W:=by
 have h0:=h.b0;have h1:=h.b1;unfold PlanM.flat at h0;unfold V6.list at h1;obtain⟨g',e,hc⟩:=own_rec TermM.len4 h.own.1 hi;injection e with e
 injection e with e
 subst e;exact⟨h0.cell 0,h0.cell 1,h0.cell 2,h0.cell 3,h0.cell 4,h0.cell 5,h0.cell 6,h0.cell 7,h0.cell 8,h0.cell 9,h0.cell 10,h0.cell 11,h0.cell 12,h0.cell 13,h0.cell 14,h1.cell 0,h1.cell 1,h1.cell 2,h1.cell 3,h1.cell 4,h1.cell 5,hc 2 _ (by decide) rfl⟩
def tokF (i:Nat)(t:ByteArray×Nat):TokI:=((i:Int),t.1,(t.2:Int))
def toksL:Nat→List ByteArray→List TokI
 |_,[]=>[]
 |i,s::l=>(wordsR 0 (runesS s)).map (tokF i)++toksL (i+1) l
def longF (fs:List ByteArray):Bool:=decide (4<fs.length)||fs.any fun s=>decide (512<s.size)
def toksM (fs:List ByteArray):Option (List TokI):=if longF fs=true then none else if 64<(toksL 0 fs).length then none else some (toksL 0 fs)
theorem wordsL_len:∀(f p:Nat) (rs:List Int),(wordsL f p rs).length≤f
 |0,_,_=>Nat.le_refl _
 |_+1,_,[]=>Nat.zero_le _
 |f+1,p,r::rs=>by
  unfold wordsL;have h1:=wordsL_len f (p+1) ((rs.dropWhile isW).drop 1);have h2:=wordsL_len f p rs
  split
  ·split
   ·omega
   ·rw[List.length_cons];omega
  ·omega
theorem wordsR_len (s:ByteArray):(wordsR 0 (runesS s)).length≤s.size:=Nat.le_trans (wordsL_len _ _ _) (runesF_len s s.size 0)
def TokOwn (w:World)(K:Nat→Prop)(v:Value)(ts:List TokI):Prop:=w.ownsRow 0 128 3 v ts.length (ts.flatMap tokI)∧∀b,v.ownBlock=some b→¬K b
theorem tokI_len (t:TokI):(tokI t).length=3:=rfl
theorem tokC_len (t:ByteArray×Nat):(tokC t).length=3:=rfl
theorem any_take {α:Type}{p:α→Bool}{l:List α}{i:Nat}{x:α}(hx:l[i]? =some x)(h:(l.take i).any p=false)(hp:p x=false):(l.take (i+1)).any p=false:=by
 obtain⟨h1,h2⟩:=List.getElem?_eq_some_iff.1 hx;rw[List.take_add_one,hx,List.any_append,h]
 simp[hp]
set_option maxRecDepth 100000 in
set_option maxHeartbeats 4000000 in
theorem token_tokens (fs:List ByteArray)(A:Option Addr)(cp:Nat)(w:World)(K:Nat→Prop)(hb:∀b,K b→b<w.heap.size)(hsl:SlAt w K 1 (.slice A fs.length cp) fs.length (fs.map Value.string))(hT:FoldTab w)(hfl:fs.length≤1000000):
  Z 50 #[.slice A fs.length cp] w fun e w'=>(match toksM fs with
   |none=>e= .returned (.tuple #[.slice none 0 0,.int .i64 4])
   |some l=>∃v,e= .returned (.tuple #[v,.int .i64 0])∧TokOwn w' (· <w.heap.size) v l)∧Keeps (· <w.heap.size) w w':=by
 have zz174:=PLift.up @c815;exact c813
theorem Tryz.infoSeg:(Tryz.prog.info? 65).map (fun i=>(i.zero,i.size,i.bytes))=some (some (.agg #[I 0,I 0,.bool false]),3,24):=by kernel_rfl
set_option maxRecDepth 100000 in
set_option maxHeartbeats 1000000 in
theorem seg_clone (l:List SegM)(A:Option Addr)(cp:Nat)(w:World)(K:Nat→Prop)(hb:∀b,K b→b<w.heap.size)(hsl:SlAt w K 3 (.slice A l.length cp) l.length (l.flatMap SegM.cells))(hl:0<l.length∧l.length≤65536):
  Z 54 #[.slice A l.length cp] w fun e w'=>∃v,e= .returned v∧w'.ownsRow w.heap.size 65 3 v l.length (l.flatMap SegM.cells)∧Keeps (· <w.heap.size) w w':=by
 obtain⟨hl0,hl1⟩:=hl;obtain⟨A',cap,h1,h2,h3,h4,h5⟩:=hsl;obtain⟨b,off,rfl,hkb,hc⟩:=h5 hl0;injection h1 with h1
 subst h1;have hbl:=hb b hkb;clear hkb;have Hc:=hid hc;have Hb:=hid hb;clear hc hb;refine calls_hide fun R' hR'=>?_
 go_enter Tryz.func54,Tryz.ntmps54
 have hnil:∀W,(Sem.run Tryz.prog (binOp BinOp.eql 44 (.slice (some ⟨b,off,none⟩) l.length cap) (.slice none 0 0)) W)= .ok (.bool false) W:=fun W=>by rfl
 go_upto_region 3 with fail
 have hcc:∀j u,(l.flatMap SegM.cells)[j]? =some u→(w.alloc (.cells #[] 65)).cell? ((⟨b,off,none⟩:Addr).add j)=some u:=fun j u hu=>by
  rw[Addr.add_lit];exact(World.cell?_of_block (a:=⟨b,off+j,none⟩) (((Keeps.refl (· <w.heap.size) w).alloc (fun b hb=>hb) _).block b hbl)).trans (Hc.out j u hu)
 have hone:∀u∈l.flatMap SegM.cells,u.oneCell'=true:=fun u hu=>by
  exact c146
 have hlen:(l.flatMap SegM.cells).length=l.length*3:=h4;have Hcc:=hid hcc;have Hone:=hid hone;have Hlen:=hid hlen;clear hcc hone hlen;obtain⟨i0,hi,hz0,hz1,hz2⟩:=info_partsF Tryz.infoSeg
 go_wp2_with (at_builtin;go_must (refine wpList_append_own_at _ rfl _ _ 44 rfl w.heap.size 65 i0 (.agg #[I 0,I 0,.bool false]) 3 24 Tryz.underlying44 hi hz0 hz1 hz2 rfl (by decide) (.slice (some ⟨w.heap.size,0,none⟩) 0 0) 0 [] rfl (own_lit w w.heap.size _ _ 3 0 [] rfl rfl (by decide) (Nat.le_refl _)) ⟨b,off,none⟩ l.length cp (l.flatMap SegM.cells) rfl Hlen.out Hcc.out ?_ ?_ ?_ ?_ ?_))
 all_goals(try(first|exact Hone.out|exact fun u x hx hu=>Hone.out u (List.mem_flatMap.2 ⟨x,hx,hu⟩)|(simp only[maxLen];omega)|omega|(simp;done)|(simp;omega)))
 intro v' w7 hown hgr _ hf;obtain⟨A',cp',rfl⟩:=ownB_form hown;have hka:Keeps (· <w.heap.size) w w7:=((Keeps.refl (· <w.heap.size) w).alloc (fun b hb=>hb) _).trans (keeps_append (fun b hb=>by have hb:b<w.heap.size:=hb;have:=World.size_alloc w (.cells #[] 65);omega) (fun b hb hk=>by have hk:b<w.heap.size:=hk;have hb:some w.heap.size=some b:=hb;injection hb with hb;omega) hgr)
 clear hgr hf;have Hown:=hid hown;have Hka:=hid hka;clear hown hka
 go_wp2_with fail
 exact hR'.out _ _ ⟨_,rfl,Hown.out,Hka.out⟩
end Go.Proofs.YtogdknnkhkjmcaaGreatDoor
namespace Go.Proofs.YtogdknnkhkjmcaaGreatDoor
open Go.RowKit Go.ChangeShapes Go.WideShapes Go.Deep
set_option linter.all false
set_option maxRecDepth 100000
theorem Tryz.own:ownKnob Tryz.prog.godebug=none:=by kernel_rfl
theorem Tryz.laidOut:laidOutB Tryz.prog=true:=by kernel_rfl
section
variable {H:Type}{enc:TypeId×Value→H}{w:World}
end
theorem arg_kept {H:Type}{enc:TypeId×Value→H}{t:TypeId}(hr:Tryz.prog.readableRec t=true)(hrow:t<Tryz.prog.types.size){W W':World}{v:Value}{d:DataW H}{ps:List MemPlace}
  (h:DataW.Trod enc Tryz.prog W 0 (fun _=>true) true t v d ps) (hb:Keeps (· <W.heap.size) W W') (hlt:∀x∈ps,x.block<W.heap.size):
  DataW.Trod enc Tryz.prog W' 0 (fun b=>decide (b<W.heap.size)) true t v d ps:=Below.trod Tryz.laidOut hr hrow h hb.below hlt
end Go.Proofs.YtogdknnkhkjmcaaGreatDoor
