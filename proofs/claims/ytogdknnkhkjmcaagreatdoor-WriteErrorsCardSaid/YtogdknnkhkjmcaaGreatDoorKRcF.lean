/- Lemmas on the programs that the statement reaches. -/
import Derived.Test.YtogdknnkhkjmcaaGreatDoorKRefN
import Derived.Test.YtogdknnkhkjmcaaGreatDoorKRcJ
namespace Go.Proofs.YtogdknnkhkjmcaaGreatDoor
open Go.RowKit
set_option linter.all false
def TailIs (P:Pools)(q:Nat→Nat)(t:Nat)(x:Option (Nat×Nat×Nat)):Prop:=
 (x=none∧t=0)∨∃k i a,x=some (k,i,a)∧P.In k i t a∧i<q k∧1≤a
theorem TailIs.mono {P:Pools}{q q':Nat→Nat}{t:Nat}{x:Option (Nat×Nat×Nat)}(h:TailIs P q t x)(hq:∀k,q k≤q' k):TailIs P q' t x:=by
 rcases h with h|⟨k,i,a,h1,h2,h3,h4⟩
 ·exact Or.inl h
 ·exact Or.inr ⟨k,i,a,h1,h2,Nat.lt_of_lt_of_le h3 (hq k),h4⟩
theorem TailIs.need {p:PlanM}{P:Pools}(hP:P.ok)(hl:p.lays P){q:Nat→Nat}{t:Nat}{x:Option (Nat×Nat×Nat)}(h:TailIs P q t x)(z:Int):p.need (t:Int) z=refL z.toNat (leftOf x) (classOf x) zerosN:=by
 rw[need_eq];unfold PlanM.needRef
 rcases h with⟨rfl,rfl⟩|⟨k,i,a,rfl,hin,_,ha1⟩
 ·rw[show((0:Nat):Int)=0 from rfl,next_zero,if_neg (by decide),if_pos rfl];rfl
 ·have hk:=hin.1;have ha2:=hin.2.2.1;have hx:=in_lt hP hin;have hc:=cls_of hP hl hin;have hz:=szK_eq hk;have hnx:(p.next (t:Int)).2=true:=by
   by_cases he:a+1<sz k
   ·rw[next_mid hP hl hin ha1 he]
   ·rw[next_end hP hl hin (by omega)]
  rw[hnx,if_neg (by decide),if_neg (by omega),hc]
  simp only;rw[show((k:Int)).toNat=k from by omega,hz,show((sz k:Int)-1-(a:Int)).toNat=sz k-1-a from by omega]
  rfl
def PutsTo (p:PlanM)(cs:List Int)(u:V6)(t:Nat)(wd:Int)(cs2:List Int)(t2:Nat)(u2:V6):Prop:=
 (p.next (t:Int)=(-1,true)∧t+1<cs.length∧cs2=cs.set (t+1) wd∧t2=t+1∧u2=u)∨
 ∃k a:Nat,k≤3∧p.next (t:Int)=((k:Int),true)∧0≤u.uK k∧u.uK k+szK k≤p.sK k∧p.bK k+u.uK k=(a:Int)∧a+1<cs.length∧cs2=putMem cs t a wd∧t2=a+1∧u2=u.up k (szK k)
theorem PutsTo.len {p:PlanM}{cs cs2:List Int}{u u2:V6}{t t2:Nat}{wd:Int}(h:PutsTo p cs u t wd cs2 t2 u2):cs2.length=cs.length∧t2<cs.length:=by
 rcases h with⟨_,h1,rfl,rfl,_⟩|⟨k,a,_,_,_,_,_,h1,rfl,rfl,_⟩
 ·exact⟨List.length_set ..,h1⟩
 ·refine⟨?_,h1⟩;unfold putMem
  split<;>simp
theorem PutsTo.ideal {p:PlanM}{cs cs2:List Int}{u u2:V6}{t t2:Nat}{wd:Int}(h:PutsTo p cs u t wd cs2 t2 u2):∃n,n≤2∧(postPutT p u t wd).ideal cs=some (((t2:Int),u2),cs2,n):=by
 unfold postPutT
 rcases h with⟨h1,h2,rfl,rfl,rfl⟩|⟨k,a,hk,h1,h2,h3,h4,h5,rfl,rfl,rfl⟩
 ·rw[h1,if_neg (by decide),if_pos (by decide),Tree.ideal_bind,putIn_ideal cs t wd h2]
  exact⟨1,by decide,rfl⟩
 ·rw[h1,if_neg (fun h=>Bool.noConfusion h),if_neg (by omega)]
  simp only[Int.toNat_natCast];rw[if_neg (by omega),Tree.ideal_bind,h4]
  obtain⟨n,hn,hi⟩:=putNew_ideal cs t a wd h5;rw[hi];refine⟨n,hn,?_⟩
  simp[Tree.ideal]
theorem TailIs.put {p:PlanM}{P:Pools}(hP:P.ok)(hl:p.lays P){q:Nat→Nat}{t:Nat}{x:Option (Nat×Nat×Nat)}(h:TailIs P q t x){u:V6}(hu:UsedIs u q){m:Nat}(hf:∀k,k≤3→(refL (m+1) (leftOf x) (classOf x) u).uK k≤p.sK k)
  {cs:List Int} (hlen:P.b 3+256*P.n 3≤cs.length) (wd:Int):
  ∃cs2 t2 u2 q2 x2,PutsTo p cs u t wd cs2 t2 u2∧TailIs P q2 t2 x2∧UsedIs u2 q2∧(∀k,q k≤q2 k)∧refL (m+1) (leftOf x) (classOf x) u=refL m (leftOf x2) (classOf x2) u2∧
   (∀i,(i<3∨P.b 3+256*P.n 3≤i)→cs2[i]? =cs[i]?)∧u2.a4=u.a4∧u2.a5=u.a5:=by
 by_cases h0:leftOf x=0
 ·--a slab is taken
  have hc:classOf x≤3:=by
   rcases h with⟨rfl,_⟩|⟨k,i,a,rfl,_⟩
   ·exact Nat.zero_le _
   ·exact Nat.min_le_right _ _
  generalize hcx:classOf x=c at*;have hnx:p.next (t:Int)=((c:Int),true):=by
   rcases h with⟨rfl,rfl⟩|⟨k,i,a,rfl,hin,_,ha1⟩
   ·rw[←hcx];exact next_zero p
   ·have h9:sz k-1-a=0:=h0;have:=hin.2.2.1;rw[next_end hP hl hin (by omega),←hcx];rfl
  have hq:=hu c hc;have hcap:q c<P.n c:=by
   have h1:=hf c hc;rw[refL,if_pos h0]at h1;have h2:=refL_ge m (sz c-2) (min (c+1) 3) (u.up c (szK c)) c;have h3:(u.up c (szK c)).uK c=u.uK c+szK c:=by rw[uK_up hc hc,if_pos rfl]
   rw[h3,hq,szK_eq hc]at h2;rw[hl.s c hc]at h1;have h4:(sz c*q c+sz c:Nat)≤sz c*P.n c:=by
    rw[szK_eq hc]at h1;have h6:=Int.le_trans h2 h1;generalize sz c*q c=X at h6 ⊢;generalize sz c*P.n c=Y at h6 ⊢
    omega
   have h5:sz c*(q c+1)≤sz c*P.n c:=by rw[Nat.mul_add,Nat.mul_one];exact h4
   have:=Nat.le_of_mul_le_mul_left h5 (by have:=sz_ge hc;omega)
   omega
  have hin2:P.In c (q c) (P.b c+sz c*q c+1) 1:=⟨hc,hcap,by have:=sz_ge hc;omega,rfl⟩
  have hlt:=in_lt hP hin2;have hin1:P.In c (q c) (P.b c+sz c*q c) 0:=⟨hc,hcap,by have:=sz_ge hc;omega,rfl⟩
  have hlt1:=in_lt hP hin1;refine⟨putMem cs t (P.b c+sz c*q c) wd,P.b c+sz c*q c+1,u.up c (szK c),updQ q c,some (c,q c,1),Or.inr ⟨c,P.b c+sz c*q c,hc,hnx,by rw[hq];omega,?_,?_,by omega,rfl,rfl,rfl⟩,Or.inr ⟨c,q c,1,rfl,hin2,by unfold updQ;rw[if_pos rfl];omega,Nat.le_refl _⟩,hu.up hc,fun k=>?_,?_,fun i hi=>?_,?_,?_⟩
  ·rw[hq,hl.s c hc,szK_eq hc];have:sz c*(q c+1)≤sz c*P.n c:=Nat.mul_le_mul_left _ hcap;rw[Nat.mul_add,Nat.mul_one]at this
   omega
  ·rw[hq,hl.b c hc];omega
  ·unfold updQ;split
   ·rename_i e;subst e;omega
   ·exact Nat.le_refl _
  ·rw[refL,if_pos h0];rfl
  ·unfold putMem
   split
   ·rw[set_get_ne (by omega)]
   ·rw[set_get_ne (by omega),set_get_ne (by omega)]
  ·unfold V6.up;split<;>rfl
  ·unfold V6.up;split<;>rfl
 ·rcases h with⟨rfl,rfl⟩|⟨k,i,a,rfl,hin,hi,ha1⟩
  ·exact absurd rfl h0
  ·have ha2:=hin.2.2.1;have hlf:leftOf (some (k,i,a))=sz k-1-a:=rfl;have h9:a+1<sz k:=by rw[hlf]at h0;omega
   have hin2:=In.succ hin h9;have hlt:=in_lt hP hin2;refine⟨cs.set (t+1) wd,t+1,u,q,some (k,i,a+1),Or.inl ⟨next_mid hP hl hin ha1 h9,by omega,rfl,rfl,rfl⟩,Or.inr ⟨k,i,a+1,rfl,hin2,hi,by omega⟩,hu,fun _=>Nat.le_refl _,?_,fun i hi=>?_,rfl,rfl⟩
   ·rw[refL,if_neg h0,hlf];show refL m (sz k-1-a-1) _ u=refL m (sz k-1-(a+1)) _ u;rw[show sz k-1-a-1=sz k-1-(a+1)from by omega];rfl
   ·rw[set_get_ne (by omega)]
set_option maxRecDepth 100000 in
set_option maxHeartbeats 1000000 in
theorem ref7_key (f:Int)(t:ByteArray)(hf:0≤f∧f≤255)(ht:t.size≤1000000)(w:World):
  Z 88 #[.int .u8 f,.string t] w fun e w'=>e= .returned (.string (keyB f t))∧Keeps (· <w.heap.size) w w':=by
 have e1:((UInt8.ofNat f.toNat).toNat:Int)=f:=by rw[UInt8.toNat_ofNat'];omega
 have hl:=own_lit w w.heap.size 5 5 1 1 [.int .u8 f] rfl rfl (by decide) (Nat.le_refl _)
 have Hl:=hid hl;have E1:=hid e1;clear hl e1;refine calls_hide fun R' hR'=>?_
 go_enter Tryz.func88,Tryz.ntmps88
 obtain⟨i0,hi,hz0,hz1,hz2⟩:=info_partsF Tryz.infoU8
 go_wp2_with (at_builtin;refine Lib.wpList_append_own_string _ rfl _ _ 186 9 rfl w.heap.size 5 i0 Tryz.underlying186 Tryz.underlying9 hi hz0 hz1 hz2 (.slice (some ⟨w.heap.size,0,none⟩) 1 1) 1 [.int .u8 f] rfl Hl.out t rfl ?_ ?_ ?_ ?_)
 all_goals(try(first|(unfold maxLen;omega)|omega|(simp;done)))
 intro v' w6 hown hgr _;obtain⟨A3,c3,rfl⟩:=ownB_form hown;have hbs:(UInt8.ofNat f.toNat::t.data.toList).length=1+t.size:=by
  rw[List.length_cons,Array.length_toList];show t.data.size+1=1+t.data.size
  omega
 have hmp:(UInt8.ofNat f.toNat::t.data.toList).map u8v=[Value.int .u8 f]++Lib.strCells t:=by
  rw[List.map_cons,show u8v (UInt8.ofNat f.toNat)=Value.int .u8 f from by unfold u8v;rw[E1.out]]
  rfl
 have hka:Keeps (· <w.heap.size) w w6:=((Keeps.refl (· <w.heap.size) w).alloc (fun b hb=>hb) _).trans (keeps_append (fun b hb=>by have hb:b<w.heap.size:=hb;have:=World.size_alloc w (.cells #[.int .u8 f] 5);omega) (fun b hb hk=>by have hk:b<w.heap.size:=hk;have hb:some w.heap.size=some b:=hb;injection hb with hb;omega) hgr)
 have hN:NewB w w6 (.slice A3 (UInt8.ofNat f.toNat::t.data.toList).length c3) (UInt8.ofNat f.toNat::t.data.toList):=⟨by rw[hmp,hbs];exact hown,hka⟩
 have hcv:=hN.conv Tryz.underlying186 Tryz.underlying5 Tryz.underlying9
 rw[hbs]at hcv;have hkey:(⟨(UInt8.ofNat f.toNat::t.data.toList).toArray⟩:ByteArray)=keyB f t:=by
  unfold keyB
  apply ByteArray.ext
  rw[ByteArray.data_append]
  apply Array.ext'
  simp
 rw[hkey]at hcv;clear hown hgr hbs hmp hN hkey hi hz0 hz1 hz2;generalize keyB f t=key at*;have Hka:=hid hka;clear hka
 go_wp2_with fail
 exact hR'.out _ _ ⟨rfl,Hka.out⟩
theorem Tryz.infoStrP:(Tryz.prog.info? 9).map (fun i=>(i.zero,i.size,i.bytes))=some (some (.string ⟨#[]⟩),1,16):=by kernel_rfl
theorem Tryz.infoIntP:(Tryz.prog.info? 3).map (fun i=>(i.zero,i.size,i.bytes))=some (some (I 0),1,8):=by kernel_rfl
abbrev KcI:Type:=ByteArray×Int
def kcIx (key:ByteArray)(l:List KcI):Nat:=l.findIdx fun t=>t.1.toList==key.toList
def keysL:List TokI→List KcI→List KcI
 | [],acc=>acc
 |x::l,acc=>match acc[kcIx (keyB x.1 x.2.1) acc]? with
  |some p=>keysL l (acc.set (kcIx (keyB x.1 x.2.1) acc) (p.1,p.2+1))
  |none=>keysL l (acc++[(keyB x.1 x.2.1,1)])
def kStr (l:List KcI):List Value:=l.map fun p=>Value.string p.1
def kInt (l:List KcI):List Value:=l.map fun p=>Value.int .i64 p.2
def KUniq (l:List KcI):Prop:=∀(i j:Nat) (p q:KcI),l[i]? =some p→l[j]? =some q→(p.1.toList==q.1.toList)=true→i=j
theorem kcIx_at {key:ByteArray}{l:List KcI}(hu:KUniq l){i:Nat}{p:KcI}(h:l[i]? =some p)(he:(p.1.toList==key.toList)=true):kcIx key l=i:=by
 obtain⟨hi,hp⟩:=List.getElem?_eq_some_iff.1 h;have hlt:kcIx key l<l.length:=List.findIdx_lt_length_of_exists ⟨p,List.mem_of_getElem? h,he⟩;have hh:(l[kcIx key l].1.toList==key.toList)=true:=List.findIdx_getElem (p:=fun t:KcI=>t.1.toList==key.toList) (w:=hlt);refine hu _ _ _ _ (List.getElem?_eq_getElem hlt) h ?_;simp only[beq_iff_eq]at hh he ⊢;rw[hh,he]
theorem kcIx_none {key:ByteArray}{l:List KcI}(hn:∀(j:Nat) (p:KcI),l[j]? =some p→(p.1.toList==key.toList)=false):l[kcIx key l]? =none:=by
 have:kcIx key l=l.length:=by
  unfold kcIx;rw[List.findIdx_eq_length];intro x hx;obtain⟨j,hj,rfl⟩:=List.getElem_of_mem hx;rw[hn j _ (List.getElem?_eq_getElem hj)]
 rw[this,List.getElem?_eq_none (Nat.le_refl _)]
theorem KUniq.set {l:List KcI}(hu:KUniq l){i:Nat}{p:KcI}(h:l[i]? =some p)(c:Int):KUniq (l.set i (p.1,c)):=by
 have key:∀(k:Nat) (q:KcI),(l.set i (p.1,c))[k]? =some q→∃q':KcI,l[k]? =some q'∧q'.1=q.1:=fun k q hq=>by
  by_cases e:k=i
  ·subst e;rw[List.getElem?_set_self (List.getElem?_eq_some_iff.1 h).1]at hq;injection hq with hq
   exact⟨p,h,by rw[←hq]⟩
  ·rw[List.getElem?_set_ne (fun h=>e h.symm)]at hq;exact⟨q,hq,rfl⟩
 intro a b q1 q2 h1 h2 h3;obtain⟨r1,g1,e1⟩:=key a q1 h1;obtain⟨r2,g2,e2⟩:=key b q2 h2;exact hu a b r1 r2 g1 g2 (by rw[e1,e2];exact h3)
theorem KUniq.app {l:List KcI}(hu:KUniq l){key:ByteArray}(hn:∀(j:Nat) (p:KcI),l[j]? =some p→(p.1.toList==key.toList)=false):KUniq (l++[(key,1)]):=by
 intro a b q1 q2 h1 h2 h3
 rcases Nat.lt_or_ge a l.length with ha|ha
 ·rw[List.getElem?_append_left ha]at h1
  rcases Nat.lt_or_ge b l.length with hb|hb
  ·rw[List.getElem?_append_left hb]at h2;exact hu a b q1 q2 h1 h2 h3
  ·rw[List.getElem?_append_right hb]at h2;have hb0:b-l.length=0:=by
    by_cases e:b-l.length=0
    ·exact e
    ·rw[List.getElem?_eq_none (by simp;omega)]at h2;cases h2
   rw[hb0]at h2;injection h2 with h2
   rw[←h2,hn a q1 h1]at h3
   cases h3
 ·rw[List.getElem?_append_right ha]at h1;have ha0:a-l.length=0:=by
   by_cases e:a-l.length=0
   ·exact e
   ·rw[List.getElem?_eq_none (by simp;omega)]at h1;cases h1
  rw[ha0]at h1;injection h1 with h1
  rcases Nat.lt_or_ge b l.length with hb|hb
  ·rw[List.getElem?_append_left hb]at h2;have h4:=hn b q2 h2;rw[←h1]at h3;simp only[beq_iff_eq]at h3;rw[←h3]at h4
   simp at h4
  ·rw[List.getElem?_append_right hb]at h2;have hb0:b-l.length=0:=by
    by_cases e:b-l.length=0
    ·exact e
    ·rw[List.getElem?_eq_none (by simp;omega)]at h2;cases h2
   omega
theorem keysL_len:∀(l:List TokI) (acc:List KcI),(keysL l acc).length≤acc.length+l.length
 | [],acc=>Nat.le_refl _
 |x::l,acc=>by
  unfold keysL;rw[List.length_cons]
  split
  ·have h2:=fun p=>keysL_len l (acc.set (kcIx (keyB x.1 x.2.1) acc) p);refine Nat.le_trans (h2 _) ?_;rw[List.length_set];omega
  ·refine Nat.le_trans (keysL_len l _) ?_;rw[List.length_append];simp;omega
set_option maxRecDepth 100000 in
set_option maxHeartbeats 4000000 in
theorem ref12_keys (toks:List TokI)(A:Option Addr)(cp:Nat)(w:World)(K:Nat→Prop)(hb:∀b,K b→b<w.heap.size)(hsl:SlAt w K 3 (.slice A toks.length cp) toks.length (toks.flatMap tokI))(ht:∀t∈toks,(0≤t.1∧t.1≤255)∧t.2.1.size≤1000)(hl:toks.length≤65536):
  Z 60 #[.slice A toks.length cp] w fun e w'=>∃v1 v2,e= .returned (.tuple #[v1,v2])∧
   Two w.heap.size w w' 9 1 v1 (keysL toks []).length (kStr (keysL toks [])) 3 1 v2 (keysL toks []).length (kInt (keysL toks [])):=by
 obtain⟨res,hres⟩:∃r,r=keysL toks []:=⟨_,rfl⟩;rw[←hres];have Hb:=hid hb;have Hsl:=hid hsl;have Ht:=hid ht;have Hres:=hid hres;clear hb hsl ht hres;refine calls_hide fun R' hR'=>?_
 go_enter Tryz.func60,Tryz.ntmps60
 go_upto_region 3 with fail
 have hT0:Two w.heap.size w ((w.alloc (.cells #[] 9)).alloc (.cells #[] 3)) 9 1 (.slice (some ⟨w.heap.size,0,none⟩) 0 0) 0 [] 3 1 (.slice (some ⟨w.heap.size+1,0,none⟩) 0 0) 0 []:=by
  have h1:=own_lit w w.heap.size 9 9 1 0 [] rfl rfl (by decide) (Nat.le_refl _)
  have h2:=own_lit (w.alloc (.cells #[] 9)) w.heap.size 3 3 1 0 [] rfl rfl (by decide) (by simp)
  rw[World.size_alloc]at h2;refine⟨ownB_keepS h1 ((Keeps.refl _ _).alloc (fun b hb=>hb) _),h2,fun y h1 h2=>?_,?_,by simp;omega⟩
  ·have h1:some w.heap.size=some y:=h1;have h2:some (w.heap.size+1)=some y:=h2;injection h1 with h1
   injection h2 with h2
   omega
  ·exact kA
 generalize hBB:w.heap.size=B at*;generalize (w.alloc (.cells #[] 9)).alloc (.cells #[] 3)=wa at*;have HT0:=hid hT0;have HBB:=hid hBB;clear hT0 hBB
 go_wp2_with fail
 go_loopw[4,5,14] (fun v1 v2 iv wx=>∃(i:Nat) (acc:List KcI) (A1:Option Addr) (c1:Nat) (A2:Option Addr) (c2:Nat),v1= .slice A1 acc.length c1∧v2= .slice A2 acc.length c2∧iv=I (i:Int)∧i≤toks.length∧acc.length≤i∧Hid (∀p∈acc,0≤p.2∧p.2≤(i:Int))∧Hid (keysL (toks.drop i) acc=res)∧Hid (KUniq acc)∧
  Hid (Two B w wx 9 1 (.slice A1 acc.length c1) acc.length (kStr acc) 3 1 (.slice A2 acc.length c2) acc.length (kInt acc))) (fun _ _ iv _=>toks.length-(intOf iv).toNat)
 case atStart=>exact⟨0,[],some ⟨B,0,none⟩,0,some ⟨B+1,0,none⟩,0,rfl,rfl,rfl,Nat.zero_le _,Nat.zero_le _,hid (fun p h=>by cases h),hid Hres.out.symm,hid (fun i j p q h=>by simp at h),HT0⟩
 case round=>
  obtain⟨i,acc,A1,c1,A2,c2,rfl,rfl,rfl,hi,hal,HC,HX,HU,HT⟩:=hrel
  by_cases hlt:i<toks.length
  ·have hltI:(i:Int)<(toks.length:Int):=by omega
   obtain⟨x,hx⟩:∃x,toks[i]? =some x:=⟨_,List.getElem?_eq_getElem hlt⟩;obtain⟨⟨tf0,tf1⟩,tf2⟩:=Ht.out x (List.mem_of_getElem? hx);have hex:=HX.out;rw[show toks.drop i=x::toks.drop (i+1) by
    obtain⟨h9,h8⟩:=List.getElem?_eq_some_iff.1 hx;rw[List.drop_eq_getElem_cons h9,h8]]at hex
   obtain⟨b0,o0,rfl,hkb,g1⟩:=SlAt.rec (f:=tokI) (fun _ _=>rfl) Hsl.out i _ hx;obtain⟨xf,xt,xp⟩:=x;have hh0:b0<B:=Hb.out _ hkb;have hblk:=HT.out.keeps.block b0 hh0;have a0:=(World.cell?_of_block (a:=⟨b0,o0+i*3+0,none⟩) hblk).trans (g1 0 _ rfl);have a1:=(World.cell?_of_block (a:=⟨b0,o0+i*3+1,none⟩) hblk).trans (g1 1 _ rfl);simp only[Nat.add_zero]at a0
   dsimp only at tf0 tf1 tf2;have hex:(match acc[kcIx (keyB xf xt) acc]? with
    |some p=>keysL (toks.drop (i+1)) (acc.set (kcIx (keyB xf xt) acc) (p.1,p.2+1))
    |none=>keysL (toks.drop (i+1)) (acc++[(keyB xf xt,1)]))=res:=hex
   have hkey:=fun W=>ref7_key xf xt ⟨tf0,tf1⟩ (by omega) W
   have hbl:b0<wr.heap.size:=Nat.lt_of_lt_of_le hh0 HT.out.le;generalize keyB xf xt=key at*;clear g1 hx hblk HX;have Hex:=hid hex;have Hkey:=hid hkey;clear hex hkey
   go_upto_region 6 with fail
   have q0:=fun q:KC (· <wr.heap.size) wr=>q.cell hbl a0;have q1:=fun q:KC (· <wr.heap.size) wr=>q.cell hbl a1;have HK1:=hid (fun q:KC (· <wr.heap.size) wr=>q.calls ((Hkey.out q.w).mono fun e w' h=>⟨h.1,h.2.mono fun b hb=>Nat.lt_of_lt_of_le hb q.k.size⟩));refine wp_region_kc (· <wr.heap.size) (by kernel_rfl) (by kernel_rfl) ?_
   repeat(go_big_quiet_step (exact HK1.out _))
   refine wpQuiet_nil ?_;rintro w5 ⟨⟨_,hk5⟩,rfl⟩;have hT5:=HT.out.calls hk5;clear q0 q1 HK1 HT hk5 a0 a1 hbl Hkey;have HT5:=hid hT5;clear hT5
   go_wp2_with fail
   go_loopw[8,9,30] (fun av _ jv wx=>∃(k:Nat) (m:Int),av=I m∧jv=I (k:Int)∧k≤acc.length∧Hid ((m= -1∧∀(j:Nat) (p:KcI),j<k→acc[j]? =some p→(p.1.toList==key.toList)=false)∨∃(n:Nat) (p:KcI),m=(n:Int)∧n<k∧acc[n]? =some p∧(p.1.toList==key.toList)=true)∧w5=wx) (fun _ _ jv _=>acc.length-(intOf jv).toNat)
   case atStart=>exact⟨0,-1,rfl,rfl,Nat.zero_le _,hid (Or.inl ⟨rfl,fun j p h=>absurd h (Nat.not_lt_zero _)⟩),rfl⟩
   case round=>
    obtain⟨k,m,rfl,rfl,hk,HM,rfl⟩:=hrel
    by_cases hkl:k<acc.length
    ·have hklI:(k:Int)<(acc.length:Int):=by omega
     obtain⟨pq,hpq⟩:∃p,acc[k]? =some p:=⟨_,List.getElem?_eq_getElem hkl⟩;obtain⟨pk,pn⟩:=pq;obtain⟨g,cx,hcf⟩:=ownB_pos HT5.out.o1 (by omega)
     injection hcf with e1 _ e3
     subst e1;have c0:=own_news HT5.out.o1 k _ (by unfold kStr;rw[List.getElem?_map,hpq];rfl)
     rw[Addr.add_lit,Nat.zero_add]at c0
     cases hkk:(pk.toList==key.toList)with
     |true=>
      have hm2:(((k:Int)= -1∧∀(j:Nat) (p:KcI),j<k+1→acc[j]? =some p→(p.1.toList==key.toList)=false)∨∃(n:Nat) (p:KcI),(k:Int)=(n:Int)∧n<k+1∧acc[n]? =some p∧(p.1.toList==key.toList)=true):=Or.inr ⟨k,(pk,pn),rfl,by omega,hpq,hkk⟩
      clear hpq HM;have Hm2:=hid hm2;clear hm2
      go_wp2_with fail
      go_roundw
      case rel=>exact⟨k+1,(k:Int),rfl,by go_num,by omega,Hm2,by first|trivial|rfl⟩
      case measure=>exact msA
     |false=>
      have hm2:((m= -1∧∀(j:Nat) (p:KcI),j<k+1→acc[j]? =some p→(p.1.toList==key.toList)=false)∨∃(n:Nat) (p:KcI),m=(n:Int)∧n<k+1∧acc[n]? =some p∧(p.1.toList==key.toList)=true):=by
       rcases HM.out with⟨h1,h2⟩|⟨n,p,h1,h2,h3,h4⟩
       ·refine Or.inl ⟨h1,fun j p hj hp=>?_⟩
        by_cases e:j=k
        ·subst e;rw[hpq]at hp;injection hp with hp;subst hp;exact hkk
        ·exact h2 j p (by omega) hp
       ·exact Or.inr ⟨n,p,h1,by omega,h3,h4⟩
      clear hpq HM;have Hm2:=hid hm2;clear hm2
      go_wp2_with fail
      go_roundw
      case rel=>exact⟨k+1,m,rfl,by go_num,by omega,Hm2,by first|trivial|rfl⟩
      case measure=>exact msA
    ·obtain rfl:k=acc.length:=by omega
     have hklI:¬(acc.length:Int)<(acc.length:Int):=by omega
     rcases HM.out with⟨rfl,hno⟩|⟨n,p,rfl,hnl,hpn,hpe⟩
     ·have hno:∀(j:Nat) (p:KcI),acc[j]? =some p→(p.1.toList==key.toList)=false:=fun j p hp=>hno j p (List.getElem?_eq_some_iff.1 hp).1 hp;have hex:=Hex.out;rw[kcIx_none hno]at hex;dsimp only at hex;have hU2:=HU.out.app hno;clear HM Hex HU hno;have hm1:((-1:Int)<0):=by decide
      have hle5:=HT5.out.le;have Hex2:=hid hex;have HU2:=hid hU2;clear hex hU2;obtain⟨i0,hi,hz0,hz1,hz2⟩:=info_partsF Tryz.infoStrP
      go_wp2_with (at_builtin;go_must (refine wpList_append_own_at _ rfl _ _ 33 rfl (B) 9 i0 (.string ⟨#[]⟩) 1 16 Tryz.underlying33 hi hz0 hz1 hz2 rfl (by decide) (.slice A1 acc.length c1) acc.length (kStr acc) rfl (ownB_keepS HT5.out.o1 ((Keeps.refl _ _).alloc (fun b hb=>hb) _)) ⟨w5.heap.size,0,none⟩ 1 1 [.string key] rfl (by simp) (own_newsS (own_lit w5 0 _ _ 1 1 [.string key] rfl rfl (by decide) (Nat.zero_le _))) ?_ ?_ ?_ ?_ ?_))
      all_goals(try(first|with_reducible exact one1 _ _|with_reducible exact one2 _ _ _|with_reducible exact one4 _ _ _ _ _|with_reducible exact oneM _ _|exact rfl|exact fun _ _=>rfl|exact⟨rfl,rfl⟩|exact⟨rfl,rfl,rfl⟩|exact⟨rfl,rfl,rfl,rfl⟩|(unfold maxLen;omega)|omega|(simp;omega)|(simp;done)))
      (try clear hi)
      (try clear hz0)
      (try clear hz1)
      (try clear hz2)
      all_goals(try(first|(intro u hu;simp at hu;subst hu;rfl)|(rw[World.size_alloc];omega)))
      intro v' w6 hown hgr _ hf;have hT6:=(HT5.out.alloc _).app hown hgr (by rw[World.size_alloc];exact hf)
      obtain⟨A9,c9,rfl⟩:=ownB_form hown;have hle6:=hT6.le;clear hown hgr hf HT5;have HT6:=hid hT6;clear hT6;obtain⟨i0,hi,hz0,hz1,hz2⟩:=info_partsF Tryz.infoIntP
      go_wp2_with (at_builtin;go_must (refine wpList_append_own_at _ rfl _ _ 135 rfl (B) 3 i0 (I 0) 1 8 Tryz.underlying135 hi hz0 hz1 hz2 rfl (by decide) (.slice A2 acc.length c2) acc.length (kInt acc) rfl (ownB_keepS HT6.out.o2 ((Keeps.refl _ _).alloc (fun b hb=>hb) _)) ⟨w6.heap.size,0,none⟩ 1 1 [I 1] rfl (by simp) (own_newsS (own_lit w6 0 _ _ 1 1 [I 1] rfl rfl (by decide) (Nat.zero_le _))) ?_ ?_ ?_ ?_ ?_))
      all_goals(try(first|with_reducible exact one1 _ _|with_reducible exact one2 _ _ _|with_reducible exact one4 _ _ _ _ _|with_reducible exact oneM _ _|exact rfl|exact fun _ _=>rfl|exact⟨rfl,rfl⟩|exact⟨rfl,rfl,rfl⟩|exact⟨rfl,rfl,rfl,rfl⟩|(unfold maxLen;omega)|omega|(simp;omega)|(simp;done)))
      (try clear hi)
      (try clear hz0)
      (try clear hz1)
      (try clear hz2)
      all_goals(try(first|(intro u hu;simp at hu;subst hu;rfl)|(rw[World.size_alloc];omega)))
      intro v' w7 hown hgr _ hf;have hT7:=((HT6.out.alloc _).swap.app hown hgr (by rw[World.size_alloc];exact hf)).swap
      obtain⟨A8,c8,rfl⟩:=ownB_form hown;clear hown hgr hf HT6;have hll:(acc++[(key,(1:Int))]).length=acc.length+1:=by simp
      have hk1:kStr acc++[Value.string key]=kStr (acc++[(key,1)]):=by unfold kStr;simp
      have hk2:kInt acc++[I 1]=kInt (acc++[(key,1)]):=by unfold kInt;simp
      rw[←hll,hk1,hk2]at hT7;clear hk1 hk2;have hC3:∀p∈acc++[(key,(1:Int))],0≤p.2∧p.2≤((i+1:Nat):Int):=fun p hp=>by
       rcases List.mem_append.1 hp with h|h
       ·have:=HC.out p h;omega
       ·rw[List.mem_singleton.1 h];dsimp only;omega
      generalize acc++[(key,(1:Int))]=acc3 at*;have HT7:=hid hT7;have HC3:=hid hC3;clear hT7 hC3
      go_wp2_with fail
      go_roundw
      case rel=>exact⟨i+1,acc3,A9,c9,A8,c8,by rw[hll],by rw[hll],by go_num,by omega,by omega,HC3,Hex2,HU2,HT7⟩
      case measure=>exact msA
     ·have hex:=Hex.out;rw[kcIx_at HU.out hpn hpe,hpn]at hex;dsimp only at hex;have hU2:=HU.out.set hpn (p.2+1);have hnn:¬(n:Int)<0:=by omega
      have hnI:(n:Int)<(acc.length:Int):=by omega
      obtain⟨g,cx,hcf⟩:=ownB_pos HT5.out.o2 (by omega)
      injection hcf with e1 _ e3
      subst e1;have c0:=own_news HT5.out.o2 n _ (by unfold kInt;rw[List.getElem?_map,hpn];rfl)
      rw[Addr.add_lit,Nat.zero_add]at c0;have hfz:=ownB_free HT5.out.o2 (by omega) n
      obtain⟨pk,pn⟩:=p;dsimp only at hex hU2 c0;clear HM Hex HU hpe;have hfl:∀l:List KcI,kInt l=l.flatMap fun p=>[I p.2]:=fun l=>by unfold kInt;induction l with
       |nil=>rfl
       |cons a l ih=>simp[ih]
      have ho2:=HT5.out.o2;rw[hfl]at ho2;have ho3:=own_recSet (f:=fun p:KcI=>[I p.2]) (fun _=>rfl) ho2 (j:=0) (a':=(pk,pn+1)) (u:=I (pn+1)) hpn (by decide) rfl
      rw[←hfl]at ho3;simp only[Nat.mul_one,Nat.add_zero]at ho3;have hks:kStr (acc.set n (pk,pn+1))=kStr acc:=by
       unfold kStr;rw[List.map_set];exact List.ext_getElem? fun z=>by
        by_cases e:z=n
        ·subst e;rw[List.getElem?_set_self (by rw[List.length_map];exact hnl),List.getElem?_map,hpn];rfl
        ·rw[List.getElem?_set_ne (fun h=>e h.symm)]
      have hgB:=(ownB_lt HT5.out.o2 (b:=g) rfl).1;have hT6:Two B w (w5.setCell ⟨g,n,none⟩ (I (pn+1))) 9 1 (.slice A1 (acc.set n (pk,pn+1)).length c1) (acc.set n (pk,pn+1)).length (kStr (acc.set n (pk,pn+1))) 3 1 (.slice (some ⟨g,0,none⟩) (acc.set n (pk,pn+1)).length c2) (acc.set n (pk,pn+1)).length (kInt (acc.set n (pk,pn+1))):=by
       rw[hks];refine⟨?_,ho3,fun y h1 h2=>?_,HT5.out.keeps.setCell (p:=⟨g,n,none⟩) (fun h=>by have h:g<B:=h;omega) _,by simp[World.setCell];exact HT5.out.le⟩
       ·rw[List.length_set];exact ownsRow_setCell_other HT5.out.o1 (a:=⟨g,n,none⟩) (fun e=>HT5.out.ne g e rfl) _
       ·rw[List.length_set]at h1;exact HT5.out.ne y h1 h2
      have hll:(acc.set n (pk,pn+1)).length=acc.length:=List.length_set ..;have hpb:=HC.out _ (List.mem_of_getElem? hpn);dsimp only at hpb;obtain⟨hpb0,hpb1⟩:=hpb;have hw1:IntKind.i64.wrap (pn+1)=pn+1:=IntWalk.i64_in _ (by omega)
      have hC3:∀p∈acc.set n (pk,pn+1),0≤p.2∧p.2≤((i+1:Nat):Int):=fun p hp=>by
       rcases List.mem_or_eq_of_mem_set hp with h|rfl
       ·have:=HC.out p h;omega
       ·dsimp only;omega
      clear ho2 ho3 hks hfl hpn HT5;generalize acc.set n (pk,pn+1)=acc3 at*;have Hex2:=hid hex;have HU2:=hid hU2;have HT6:=hid hT6;have HC3:=hid hC3;clear hex hU2 hT6 hC3
      go_wp2_with fail
      go_roundw
      case rel=>exact⟨i+1,acc3,A1,c1,some ⟨g,0,none⟩,c2,by rw[hll],by rw[hll],by go_num,by omega,by omega,HC3,Hex2,HU2,HT6⟩
      case measure=>exact msA
  ·obtain rfl:i=toks.length:=by omega
   have hltI:¬(toks.length:Int)<(toks.length:Int):=by omega
   have hex:=HX.out;rw[List.drop_length]at hex;have hex:acc=res:=hex;subst hex
   go_wp2_with fail
   exact hR'.out _ _ ⟨_,_,rfl,HT.out⟩
def lookP (cs:List Int)(t:Tab)(n:Nat)(key:ByteArray):TermM:=
 if(probe t n (homeD n (bsL key)) (bsL key) n 0).1=0 then⟨key,0,0,1⟩else⟨key,(probe t n (homeD n (bsL key)) (bsL key) n 0).1,cs.getD (probe t n (homeD n (bsL key)) (bsL key) n 0).1.toNat 0,1⟩
def termsP (cs:List Int)(t:Tab)(n:Nat):List TokI→List TermM→List TermM
 | [],out=>out
 |x::l,out=>
  match out[keyIx (keyB x.1 x.2.1) out]? with
  |some y=>termsP cs t n l (out.set (keyIx (keyB x.1 x.2.1) out) { y with cnt:=y.cnt+1 })
  |none=>termsP cs t n l (out++[lookP cs t n (keyB x.1 x.2.1)])
theorem lookT_ideal {cs:List Int}{s n:Nat}{t:Tab}{lo hi:Nat}(R:Rep cs s n t lo hi)(hn:0<n)(key:ByteArray):∃cnt,cnt≤n*(2+(key.size+3)/4)+1∧(lookT (s:Int) n key).ideal cs=some (lookP cs t n key,cs,cnt):=by
 obtain⟨cnt,h1,h2⟩:=findK_ideal R hn key;unfold lookT lookP;rw[Tree.ideal_bind,h2]
 by_cases h0:(probe t n (homeD n (bsL key)) (bsL key) n 0).1=0
 ·refine⟨cnt,by omega,?_⟩
  rw[if_pos h0]
  simp[Tree.ideal,h0]
 ·obtain⟨j,a,hj,hta,hx,_⟩:=probe_sound (x:=(probe t n (homeD n (bsL key)) (bsL key) n 0).1) (y:=(probe t n (homeD n (bsL key)) (bsL key) n 0).2) rfl h0 hn;obtain⟨r1,r2,_,_⟩:=R.lies _ _ _ hj hta;have hlen:=R.len;have hbk:=R.book;refine⟨cnt+1,by omega,?_⟩
  rw[if_neg h0];simp only[Option.bind_some];rw[if_neg h0];have hin:0≤(probe t n (homeD n (bsL key)) (bsL key) n 0).1∧(probe t n (homeD n (bsL key)) (bsL key) n 0).1<cs.length:=by rw[hx];omega
  have e:(Tree.load (probe t n (homeD n (bsL key)) (bsL key) n 0).1 fun tl=>Tree.ret (⟨key,(probe t n (homeD n (bsL key)) (bsL key) n 0).1,tl,1⟩:TermM)).ideal cs=some (⟨key,(probe t n (homeD n (bsL key)) (bsL key) n 0).1,cs.getD (probe t n (homeD n (bsL key)) (bsL key) n 0).1.toNat 0,1⟩,cs,1):=by
   show(if _ then _ else _)=_
   rw[if_pos hin];rfl
  rw[e]
  simp[Nat.add_comm]
theorem termsT_ideal {cs:List Int}{s n:Nat}{t:Tab}{lo hi:Nat}(R:Rep cs s n t lo hi)(hn:0<n):∀(l:List TokI) (out:List TermM),(∀x∈l,x.2.1.size≤16)→
  ∃cnt,cnt≤l.length*(n*7+1)∧(termsT (s:Int) n l out).ideal cs=some (termsP cs t n l out,cs,cnt)
 | [],out,_=>⟨0,Nat.zero_le _,rfl⟩
 |x::l,out,hx=>by
  have hs:=hx x List.mem_cons_self;have hl:∀y∈l,y.2.1.size≤16:=fun y hy=>hx y (List.mem_cons_of_mem _ hy);have hkz:=keyB_size x.1 x.2.1;have hmul:(x::l).length*(n*7+1)=l.length*(n*7+1)+(n*7+1):=Nat.succ_mul _ _;rw[hmul];unfold termsT termsP
  split
  ·rename_i y hy
   obtain⟨cnt,h1,h2⟩:=termsT_ideal R hn l (out.set (keyIx (keyB x.1 x.2.1) out) { y with cnt:=y.cnt+1 }) hl
   rw[hy];exact⟨cnt,by omega,h2⟩
  ·rename_i hy
   obtain⟨c1,g1,g2⟩:=lookT_ideal R hn (keyB x.1 x.2.1);obtain⟨cnt,h1,h2⟩:=termsT_ideal R hn l (out++[lookP cs t n (keyB x.1 x.2.1)]) hl;have hm:n*(2+((keyB x.1 x.2.1).size+3)/4)≤n*7:=Nat.mul_le_mul_left _ (by omega)
   refine⟨cnt+c1,by omega,?_⟩
   rw[hy,Tree.ideal_bind,g2];simp only[Option.bind_some,h2]
   simp
def kcOf (t:TermM):KcI:=(t.key,t.cnt)
theorem keyIx_kc (key:ByteArray)(l:List TermM):kcIx key (l.map kcOf)=keyIx key l:=by
 unfold kcIx keyIx;rw[List.findIdx_map];rfl
theorem lookP_key (cs:List Int)(t:Tab)(n:Nat)(key:ByteArray):(lookP cs t n key).key=key∧(lookP cs t n key).cnt=1:=by
 unfold lookP
 split<;>exact⟨rfl,rfl⟩
theorem termsP_keys (cs:List Int)(t:Tab)(n:Nat):∀(l:List TokI) (out:List TermM),(termsP cs t n l out).map kcOf=keysL l (out.map kcOf)
 | [],out=>rfl
 |x::l,out=>by
  unfold termsP keysL;rw[keyIx_kc,List.getElem?_map]
  cases h:out[keyIx (keyB x.1 x.2.1) out]? with
  |some y=>
   dsimp only[Option.map];rw[termsP_keys cs t n l,List.map_set];rfl
  |none=>
   dsimp only[Option.map];rw[termsP_keys cs t n l,List.map_append];have:=lookP_key cs t n (keyB x.1 x.2.1);show keysL l (out.map kcOf++[((lookP cs t n (keyB x.1 x.2.1)).key,(lookP cs t n (keyB x.1 x.2.1)).cnt)])=_;rw[this.1,this.2]
def LookedUp (cs:List Int)(t:Tab)(n:Nat)(y:TermM):Prop:=y.recd=(lookP cs t n y.key).recd∧y.tl=(lookP cs t n y.key).tl
theorem termsP_looked (cs:List Int)(t:Tab)(n:Nat):∀(l:List TokI) (out:List TermM),(∀y∈out,LookedUp cs t n y)→∀y∈termsP cs t n l out,LookedUp cs t n y
 | [],out,h=>h
 |x::l,out,h=>by
  unfold termsP
  cases he:out[keyIx (keyB x.1 x.2.1) out]? with
  |some y=>
   refine termsP_looked cs t n l _ fun z hz=>?_
   rcases List.mem_or_eq_of_mem_set hz with g|rfl
   ·exact h z g
   ·exact h y (List.mem_of_getElem? he)
  |none=>
   refine termsP_looked cs t n l _ fun z hz=>?_
   rcases List.mem_append.1 hz with g|g
   ·exact h z g
   ·rw[List.mem_singleton.1 g];have:=lookP_key cs t n (keyB x.1 x.2.1);exact⟨by rw[this.1],by rw[this.1]⟩
def RecTo (p:PlanM)(cs:List Int)(u:V6)(s0 n:Nat)(key:ByteArray)(cs1:List Int)(rc:Nat)(u1:V6):Prop:=
 (∃sl:Int,findL cs s0 n (homeD n (bsL key)) key n 0=((rc:Int),sl,true)∧rc≠0∧rc<cs.length∧cs1=cs∧u1=u)∨
 ∃sl:Nat,findL cs s0 n (homeD n (bsL key)) key n 0=(0,(sl:Int),true)∧0≤u.a4∧u.a4+(2+(((key.size+3)/4:Nat):Int))≤p.size.a4∧p.base.a4+u.a4=(rc:Int)∧rc+2+(key.size+3)/4≤cs.length∧s0+sl<cs.length∧
  cs1=putC cs rc (s0+sl) key.size (packC (bsL key))∧u1={ u with a4:=u.a4+(2+(((key.size+3)/4:Nat):Int)) }
theorem RecTo.len {p:PlanM}{cs cs1:List Int}{u u1:V6}{s0 n rc:Nat}{key:ByteArray}(h:RecTo p cs u s0 n key cs1 rc u1):cs1.length=cs.length∧rc<cs.length:=by
 rcases h with⟨_,_,_,h1,rfl,_⟩|⟨sl,_,_,_,_,h1,_,rfl,_⟩
 ·exact⟨rfl,h1⟩
 ·exact⟨putC_len ..,by omega⟩
theorem set_u32 {cs:List Int}(h:∀y∈cs,U32 y){v:Int}(hv:U32 v)(i:Nat):∀y∈cs.set i v,U32 y:=fun y hy=>by
 rcases List.mem_or_eq_of_mem_set hy with g|rfl
 ·exact h y g
 ·exact hv
theorem storesC_u32 (a:Nat):∀(L:List Int) (cs:List Int) (k:Nat),(∀y∈cs,U32 y)→(∀y∈L,U32 y)→∀y∈storesC cs a L k,U32 y
 | [],cs,k,h,_=>h
 |c::L,cs,k,h,hL=>storesC_u32 a L _ (k+1) (set_u32 h (hL c List.mem_cons_self) _) (fun y hy=>hL y (List.mem_cons_of_mem _ hy))
theorem putC_u32 {cs:List Int}(h:∀y∈cs,U32 y){a sl:Nat}{len:Int}{L:List Int}(ha:a≤65536)(hl:U32 len)(hL:∀y∈L,U32 y):∀y∈putC cs a sl len L,U32 y:=
 set_u32 (storesC_u32 a L _ 0 (set_u32 h hl _) hL) (by unfold U32;omega) _
theorem putMem_u32 {cs:List Int}(h:∀y∈cs,U32 y){t a:Nat}{v:Int}(ht:t≤65536)(hv:U32 v):∀y∈putMem cs t a v,U32 y:=by
 unfold putMem
 split
 ·exact set_u32 h hv _
 ·exact set_u32 (set_u32 h (by unfold U32;omega) _) hv _
theorem PutsTo.u32 {p:PlanM}{cs cs2:List Int}{u u2:V6}{t t2:Nat}{wd:Int}(h:PutsTo p cs u t wd cs2 t2 u2)(hu:∀y∈cs,U32 y)(ht:t≤65536)(hw:U32 wd):∀y∈cs2,U32 y:=by
 rcases h with⟨_,_,rfl,_⟩|⟨k,a,_,_,_,_,_,_,rfl,_⟩
 ·exact set_u32 hu hw _
 ·exact putMem_u32 hu ht hw
structure DicAt (p:PlanM)(P:Pools)(s n:Nat)(cs:List Int)(u:V6)(t:Tab)(q:Nat→Nat)(hi:Nat):Prop where
 ok:P.ok
 lays:p.lays P
 n0:0<n
 n1:n≤512
 rep:Rep cs s n t (P.b 3+256*P.n 3) hi
 wf:WF t n (homeD n)
 base:p.base.a4=((P.b 3+256*P.n 3:Nat):Int)
 top:(hi:Int)=p.base.a4+u.a4
 a4:0≤u.a4∧u.a4≤p.size.a4
 book:p.base.a4+p.size.a4≤(s:Int)
 zero:∀i:Nat,hi≤i→(i:Int)<p.base.a4+p.size.a4→cs[i]? =some 0
 apart:∀i k a i' k' a',i<n→i'<n→t i=some (k,a)→t i'=some (k',a')→a=a'∨a+2+(packC k).length≤a'∨a'+2+(packC k').length≤a
 tails:∀i k a,i<n→t i=some (k,a)→∃(tl:Nat) (x:Option (Nat×Nat×Nat)),cs[a]? =some (tl:Int)∧TailIs P q tl x
 used:UsedIs u q
 u32:∀y∈cs,U32 y
 len:cs.length≤65536
theorem TailIs.zero (P:Pools)(q:Nat→Nat):TailIs P q 0 none:=Or.inl ⟨rfl,rfl⟩
theorem tail_lt {P:Pools}(hP:P.ok){q:Nat→Nat}{t:Nat}{x:Option (Nat×Nat×Nat)}(h:TailIs P q t x):t<P.b 3+256*P.n 3:=by
 rcases h with⟨_,rfl⟩|⟨k,i,a,_,h2,_⟩
 ·have:=hP.b0;have:=hP.b1;have:=hP.b2;have:=hP.b3;omega
 ·exact(in_lt hP h2).2
theorem lo_ge {P:Pools}(hP:P.ok):3≤P.b 3+256*P.n 3:=by
 have:=hP.b0;have:=hP.b1;have:=hP.b2;have:=hP.b3;omega
theorem DicAt.newRec {p:PlanM}{P:Pools}{s n:Nat}{cs:List Int}{u:V6}{t:Tab}{q:Nat→Nat}{hi:Nat}(D:DicAt p P s n cs u t q hi){key:List Int}{sl:Nat}(hp:probe t n (homeD n key) key n 0=(0,(sl:Int)))
  (hk:key.length≤100) (hb:∀x∈key,Byte x) (hf:u.a4+(2+(((key.length+3)/4:Nat):Int))≤p.size.a4):
  sl<n∧t sl=none∧DicAt p P s n (putC cs hi (s+sl) key.length (packC key)) { u with a4:=u.a4+(2+(((key.length+3)/4:Nat):Int)) } (t.put sl (key,hi)) q (hi+2+(packC key).length)∧
   (putC cs hi (s+sl) key.length (packC key))[hi]? =some 0∧hi≠0∧(∀i,i<hi+1∨s+n≤i∨(hi+2+(packC key).length≤i∧i<s)→(putC cs hi (s+sl) key.length (packC key))[i]? =cs[i]?)∧hi+2+(key.length+3)/4≤cs.length∧s+sl<cs.length:=by
 have hlo:=lo_ge D.ok;have hbase:=D.base;have hhi:=D.top;have ha4:=D.a4;have hbk:=D.book;have hlen:=D.rep.len;have hpl:(packC key).length=(key.length+3)/4:=packC_len _;obtain⟨h1,h2,h3⟩:=D.wf.put D.n0 hp hi (by omega)
 have hR:=D.rep.put (key:=key) (hi':=hi+2+(packC key).length) h1 h2 (by omega) rfl (by omega) hk hb
 have out:∀i,(i<hi+1∨hi+2+(packC key).length≤i)→i≠s+sl→(putC cs hi (s+sl) key.length (packC key))[i]? =cs[i]? :=by
  intro i g1 g2;unfold putC;rw[List.getElem?_set_ne (fun e=>g2 e.symm),storesC_out _ _ _ _ _ (by omega),List.getElem?_set_ne (by omega)]
 refine⟨h1,h2,⟨D.ok,D.lays,D.n0,D.n1,hR,h3,hbase,?_,?_,hbk,?_,?_,?_,?_,?_,?_⟩,?_,by omega,fun i hi0=>?_,by omega,by omega⟩
 ·dsimp only;omega
 ·dsimp only;omega
 ·intro i g1 g2;rw[out i (Or.inr g1) (by omega)]
  exact D.zero i (by omega) g2
 ·intro i k a i' k' a' g1 g2 e1 e2
  by_cases c1:i=sl
  ·subst c1;rw[Tab.put_self]at e1;injection e1 with e1;injection e1 with e1 e3
   subst e1 e3
   by_cases c2:i'=i
   ·subst c2;rw[Tab.put_self]at e2;injection e2 with e2;injection e2 with _ e3
    exact Or.inl e3
   ·rw[Tab.put_ne _ _ c2]at e2;have:=(D.rep.lies _ _ _ g2 e2).2.1;exact Or.inr (Or.inr this)
  ·rw[Tab.put_ne _ _ c1]at e1
   by_cases c2:i'=sl
   ·subst c2;rw[Tab.put_self]at e2;injection e2 with e2;injection e2 with e2 e3
    subst e2 e3;have:=(D.rep.lies _ _ _ g1 e1).2.1;exact Or.inr (Or.inl this)
   ·rw[Tab.put_ne _ _ c2]at e2;exact D.apart _ _ _ _ _ _ g1 g2 e1 e2
 ·intro i k a g1 e1
  by_cases c1:i=sl
  ·subst c1;rw[Tab.put_self]at e1;injection e1 with e1;injection e1 with e1 e3
   subst e1 e3;refine⟨0,none,?_,Or.inl ⟨rfl,rfl⟩⟩;rw[out _ (Or.inl (by omega)) (by omega)]
   exact D.zero _ (Nat.le_refl _) (by omega)
  ·rw[Tab.put_ne _ _ c1]at e1;have:=(D.rep.lies _ _ _ g1 e1).2.1;rw[out _ (Or.inl (by omega)) (by omega)]
   exact D.tails _ _ _ g1 e1
 ·intro k hk;have:=D.used k hk
  rcases k_cases hk with rfl|rfl|rfl|rfl<;>exact this
 ·have:=D.len;exact putC_u32 D.u32 (by omega) (by unfold U32;omega) (packC_range hb)
 ·rw[putC_len];exact D.len
 ·rw[out _ (Or.inl (by omega)) (by omega)]
  exact D.zero _ (Nat.le_refl _) (by omega)
 ·exact out i (by omega) (by omega)
theorem DicAt.word {p:PlanM}{P:Pools}{s n:Nat}{cs:List Int}{u:V6}{t:Tab}{q:Nat→Nat}{hi:Nat}(D:DicAt p P s n cs u t q hi){i a:Nat}{k:List Int}(hi':i<n)(e:t i=some (k,a))
  {tl:Nat} {x:Option (Nat×Nat×Nat)} (hx:TailIs P q tl x) {m:Nat} (hf:∀k,k≤3→(refL (m+1) (leftOf x) (classOf x) u).uK k≤p.sK k) {wd:Int} (hwd:U32 wd):
  ∃cs2 t2 u2 q2 x2,PutsTo p cs u tl wd cs2 t2 u2∧DicAt p P s n (cs2.set a (t2:Int)) u2 t q2 hi∧TailIs P q2 t2 x2∧refL (m+1) (leftOf x) (classOf x) u=refL m (leftOf x2) (classOf x2) u2∧u2.a4=u.a4∧u2.a5=u.a5∧
   (∀j,(j<3∨P.b 3+256*P.n 3≤j)→j≠a→(cs2.set a (t2:Int))[j]? =cs[j]?)∧(cs2.set a (t2:Int))[a]? =some (t2:Int)∧cs2.length=cs.length∧∀k,q k≤q2 k:=by
 have hlo:=lo_ge D.ok;have hbk:=D.book;have hbase:=D.base;have ha4:=D.a4;have hlen:=D.rep.len;have hsb:=D.rep.book;obtain⟨r1,r2,_,_⟩:=D.rep.lies _ _ _ hi' e;obtain⟨cs2,t2,u2,q2,x2,h1,h2,h3,h4,h5,h6,h7,h8⟩:=hx.put D.ok D.lays D.used hf (cs:=cs) (by omega) wd
 have hl:=h1.len;have out:∀j,(j<3∨P.b 3+256*P.n 3≤j)→j≠a→(cs2.set a (t2:Int))[j]? =cs[j]? :=fun j g1 g2=>by
  rw[List.getElem?_set_ne (fun e=>g2 e.symm)];exact h6 j g1
 have hself:(cs2.set a (t2:Int))[a]? =some (t2:Int):=List.getElem?_set_self (by rw[hl.1];omega)
 refine⟨cs2,t2,u2,q2,x2,h1,⟨D.ok,D.lays,D.n0,D.n1,?_,D.wf,hbase,by rw[h7];exact D.top,by rw[h7];exact ha4,hbk,?_,D.apart,?_,h3,?_,?_⟩,h2,h5,h7,h8,out,hself,hl.1,h4⟩
 ·have R:=D.rep;refine⟨by rw[List.length_set,hl.1];exact R.len,R.book,R.pos,fun j hj ej=>?_,fun j k' a' hj ej=>?_,R.lies,fun j k' a' hj ej=>?_,fun j k' a' hj ej jj c hc=>?_⟩
  ·rw[out _ (Or.inr (by omega)) (by omega)];exact R.void j hj ej
  ·rw[out _ (Or.inr (by omega)) (by omega)];exact R.slot j k' a' hj ej
  ·obtain⟨g1,g2,_,_⟩:=R.lies _ _ _ hj ej;have:=D.apart _ _ _ _ _ _ hi' hj e ej;rw[out _ (Or.inr (by omega)) (by omega)];exact R.size j k' a' hj ej
  ·obtain⟨g1,g2,_,_⟩:=R.lies _ _ _ hj ej;have hjl:jj<(packC k').length:=(List.getElem?_eq_some_iff.1 hc).1;have:=D.apart _ _ _ _ _ _ hi' hj e ej;rw[out _ (Or.inr (by omega)) (by omega)];exact R.key j k' a' hj ej jj c hc
 ·intro j g1 g2;have:=D.top;rw[out _ (Or.inr (by omega)) (by omega)]
  exact D.zero j g1 g2
 ·intro j k' a' hj ej
  by_cases ha:a'=a
  ·subst ha;exact⟨t2,x2,hself,h2⟩
  ·obtain⟨g1,g2,_,_⟩:=D.rep.lies _ _ _ hj ej;obtain⟨tl',x',g3,g4⟩:=D.tails _ _ _ hj ej;exact⟨tl',x',by rw[out _ (Or.inr g1) ha];exact g3,g4.mono h4⟩
 ·have hn:=D.len;refine set_u32 (h1.u32 D.u32 ?_ hwd) (by unfold U32;omega) _
  have:=tail_lt D.ok hx
  omega
 ·rw[List.length_set,hl.1];exact D.len
theorem V6.ext' {u v:V6}(h0:u.a0=v.a0)(h1:u.a1=v.a1)(h2:u.a2=v.a2)(h3:u.a3=v.a3)(h4:u.a4=v.a4)(h5:u.a5=v.a5):u=v:=by
 cases u;cases v;simp_all
theorem V6.add_assoc (u v w:V6):(u.add v).add w=u.add (v.add w):=by
 unfold V6.add;refine V6.ext' ?_ ?_ ?_ ?_ ?_ ?_<;>dsimp only<;>omega
theorem V6.add_left (u v w:V6):u.add (v.add w)=v.add (u.add w):=by
 unfold V6.add;refine V6.ext' ?_ ?_ ?_ ?_ ?_ ?_<;>dsimp only<;>omega
theorem V6.zero_add (u:V6):zerosN.add u=u:=by
 unfold V6.add zerosN;refine V6.ext' ?_ ?_ ?_ ?_ ?_ ?_<;>dsimp only<;>omega
theorem V6.addg (u v:V6)(k:Nat):(u.add v).g6 k=u.g6 k+v.g6 k:=by unfold V6.g6;split<;>rfl
theorem V6.g_of (u:V6){k:Nat}(h:k≤3):u.g6 k=u.uK k:=by rcases k_cases h with rfl|rfl|rfl|rfl<;>rfl
theorem PlanM.g_of (p:PlanM){k:Nat}(h:k≤3):p.size.g6 k=p.sK k:=by rcases k_cases h with rfl|rfl|rfl|rfl<;>rfl
theorem refL_45:∀(n left k:Nat) (u:V6),(refL n left k u).a4=u.a4∧(refL n left k u).a5=u.a5:=by
 intro n
 induction n with
 |zero=>intro _ _ _;exact⟨rfl,rfl⟩
 |succ n ih=>
  intro left k u;rw[refL]
  split
  ·have:=ih (sz k-2) (min (k+1) 3) (u.up k (szK k));rw[this.1,this.2];unfold V6.up;split<;>exact⟨rfl,rfl⟩
  ·exact ih _ _ _
theorem TailIs.sum {p:PlanM}{P:Pools}(hP:P.ok)(hl:p.lays P){q:Nat→Nat}{t:Nat}{x:Option (Nat×Nat×Nat)}(h:TailIs P q t x)(u:V6)(m:Nat):refL m (leftOf x) (classOf x) u=u.add (p.need (t:Int) (m:Int)):=by
 rw[h.need hP hl,Int.toNat_natCast,←refL_add,V6.add_zero]
theorem TailIs.pos {p:PlanM}{P:Pools}(hP:P.ok)(hl:p.lays P){q:Nat→Nat}{t:Nat}{x:Option (Nat×Nat×Nat)}(h:TailIs P q t x)(m:Nat)(k:Nat)(hk:k<6):0≤(p.need (t:Int) (m:Int)).g6 k:=by
 rw[h.need hP hl,Int.toNat_natCast]
 by_cases h3:k≤3
 ·rw[V6.g_of _ h3];have:=refL_ge m (leftOf x) (classOf x) zerosN k;rw[zerosN_uK]at this;exact this
 ·have:=refL_45 m (leftOf x) (classOf x) zerosN
  rcases(by omega:k=4∨k=5)with rfl|rfl
  ·show 0≤(refL m (leftOf x) (classOf x) zerosN).a4;rw[this.1];decide
  ·show 0≤(refL m (leftOf x) (classOf x) zerosN).a5;rw[this.2];decide
def cntK (key:ByteArray):List TokI→Nat
 | []=>0
 |x::l=>(if keyB x.1 x.2.1=key then 1 else 0)+cntK key l
def bookV (key:ByteArray):V6:=⟨0,0,0,0,2+(((key.size+3)/4:Nat):Int),0⟩
def ndT (p:PlanM)(y:TermM)(m:Nat):V6:=(if y.recd=0 then bookV y.key else zerosN).add (p.need y.tl (m:Int))
def sumN (p:PlanM)(l:List TokI):List TermM→V6
 | []=>zerosN
 |y::r=>(ndT p y (cntK y.key l)).add (sumN p l r)
def freshN:List TermM→Nat
 | []=>0
 |y::r=>(if y.recd=0 then 1 else 0)+freshN r
def occ (t:Tab):Nat→Nat
 |0=>0
 |n+1=>occ t n+(if(t n).isSome=true then 1 else 0)
theorem occ_void {t:Tab}:∀{n:Nat},occ t n<n→∃i,i<n∧t i=none
 |0,h=>by cases h
 |n+1,h=>by
  unfold occ at h
  cases e:t n with
  |none=>exact⟨n,Nat.lt_succ_self n,e⟩
  |some p=>
   rw[e]at h;simp only[Option.isSome_some,if_true]at h;obtain⟨i,h1,h2⟩:=occ_void (t:=t) (n:=n) (by omega)
   exact⟨i,by omega,h2⟩
theorem occ_same {t:Tab}{sl:Nat}(e:List Int×Nat):∀{n:Nat},n≤sl→occ (t.put sl e) n=occ t n
 |0,_=>rfl
 |n+1,h=>by
  unfold occ;rw[occ_same e (by omega),Tab.put_ne _ _ (by omega)]
theorem occ_put {t:Tab}{sl:Nat}(e:List Int×Nat)(h:t sl=none):∀{n:Nat},sl<n→occ (t.put sl e) n=occ t n+1
 |0,hs=>by cases hs
 |n+1,hs=>by
  unfold occ
  by_cases c:sl=n
  ·subst c;rw[occ_same e (Nat.le_refl _),Tab.put_self,h]
   simp
  ·rw[occ_put e h (by omega),Tab.put_ne _ _ (by omega)]
   omega
theorem probe_slot {t:Tab}{n:Nat}(hn:0<n)(h:Nat)(key:List Int)(hv:∃i,i<n∧t i=none):∃sl:Nat,sl<n∧(probe t n h key n 0).2=(sl:Int):=by
 rcases probe_cases t n h key n 0 with⟨j,_,_,_,⟨_,h5⟩|⟨a,_,h5⟩⟩|⟨g1,_⟩
 ·rw[h5];exact⟨_,Nat.mod_lt _ hn,rfl⟩
 ·rw[h5];exact⟨_,Nat.mod_lt _ hn,rfl⟩
 ·exfalso
  obtain⟨i,hi,he⟩:=hv;have hr:=Nat.mod_lt h hn;obtain⟨k,a,e,_⟩:=g1 ((i+(n-h%n))%n) (Nat.zero_le _) (by have:=Nat.mod_lt (i+(n-h%n)) hn;omega)
  have:(h+(i+(n-h%n))%n)%n=i:=by
   rw[Nat.add_mod,Nat.mod_mod,←Nat.add_mod,show h+(i+(n-h%n))=(h/n+1)*n+i from by
    have h1:=Nat.div_add_mod h n;have h2:(h/n+1)*n=n*(h/n)+n:=by rw[Nat.add_mul,Nat.one_mul,Nat.mul_comm]
    omega,Nat.mul_add_mod_self_right,Nat.mod_eq_of_lt hi]
  rw[this,he]at e
  cases e
theorem probe_other {t:Tab}{n:Nat}(hn:0<n)(W:WF t n (homeD n)){key k':List Int}{sl a:Nat}(hs:t sl=none)(W':WF (t.put sl (key,a)) n (homeD n))(hne:k'≠key):
  (probe (t.put sl (key,a)) n (homeD n k') k' n 0).1=(probe t n (homeD n k') k' n 0).1:=by
 by_cases h0:(probe t n (homeD n k') k' n 0).1=0
 ·rw[h0]
  by_cases h1:(probe (t.put sl (key,a)) n (homeD n k') k' n 0).1=0
  ·exact h1
  ·exfalso
   obtain⟨j,b,hj,e,_,_⟩:=probe_sound (x:=(probe (t.put sl (key,a)) n (homeD n k') k' n 0).1) (y:=(probe (t.put sl (key,a)) n (homeD n k') k' n 0).2) rfl h1 hn
   by_cases hjs:j=sl
   ·subst hjs;rw[Tab.put_self]at e;injection e with e;injection e with e _
    exact hne e.symm
   ·rw[Tab.put_ne _ _ hjs]at e;have h2:=probe_complete W hj e;rw[h2]at h0;have h3:=W.pos _ _ _ hj e;simp only at h0
    omega
 ·obtain⟨j,b,hj,e,hb,_⟩:=probe_sound (x:=(probe t n (homeD n k') k' n 0).1) (y:=(probe t n (homeD n k') k' n 0).2) rfl h0 hn;rw[hb,probe_complete W' hj (Tab.put_le hs _ _ e)]
theorem Rep.key_of {cs:List Int}{s n:Nat}{t:Tab}{lo hi:Nat}(R:Rep cs s n t lo hi){i i':Nat}{k k':List Int}{a:Nat}(h1:i<n)(h2:i'<n)(e1:t i=some (k,a))(e2:t i'=some (k',a)):k=k':=by
 have a1:=R.size _ _ _ h1 e1;have a2:=R.size _ _ _ h2 e2;rw[a1]at a2;injection a2 with a2
 have hl:k.length=k'.length:=by omega
 refine packC_inj (R.lies _ _ _ h1 e1).2.2.2 (R.lies _ _ _ h2 e2).2.2.2 hl (List.ext_getElem? fun j=>?_);have hpl:(packC k).length=(packC k').length:=by rw[packC_len,packC_len,hl]
 by_cases hj:j<(packC k).length
 ·have b1:=R.key _ _ _ h1 e1 j _ (List.getElem?_eq_getElem hj);have b2:=R.key _ _ _ h2 e2 j _ (List.getElem?_eq_getElem (by omega))
  rw[List.getElem?_eq_getElem hj,←b1,b2,←List.getElem?_eq_getElem]
 ·rw[List.getElem?_eq_none (by omega),List.getElem?_eq_none (by omega)]
structure TermsAt (cs:List Int)(t:Tab)(n:Nat)(all:List TermM)(l:List TokI):Prop where
 uniq:∀(i j:Nat) (y z:TermM),all[i]? =some y→all[j]? =some z→y.key=z.key→i=j
 look:∀y∈all,LookedUp cs t n y
 has:∀x∈l,hasK (keyB x.1 x.2.1) all
 size:∀y∈all,y.key.size≤17
 cnt:∀y∈all,y.recd=0→1≤cntK y.key l
theorem sumN_mem {p:PlanM}{l:List TokI}:∀{all:List TermM},(∀y∈all,∀k,k<6→0≤(ndT p y (cntK y.key l)).g6 k)→(∀k,k<6→0≤(sumN p l all).g6 k)∧∀y∈all,∀k,k<6→(ndT p y (cntK y.key l)).g6 k≤(sumN p l all).g6 k
 | [],_=>⟨fun k _=>by show 0≤zerosN.g6 k;unfold V6.g6 zerosN;split<;>decide,fun y hy=>by cases hy⟩
 |y::r,h=>by
  have ih:=sumN_mem (p:=p) (l:=l) (all:=r) fun z hz=>h z (List.mem_cons_of_mem _ hz);have h0:=h y List.mem_cons_self;refine⟨fun k hk=>?_,fun z hz k hk=>?_⟩
  ·show 0≤((ndT p y (cntK y.key l)).add (sumN p l r)).g6 k;rw[V6.addg];have:=ih.1 k hk;have:=h0 k hk
   omega
  ·show _≤((ndT p y (cntK y.key l)).add (sumN p l r)).g6 k;rw[V6.addg];have a1:=ih.1 k hk;have a2:=h0 k hk
   rcases List.mem_cons.1 hz with rfl|hz
   ·omega
   ·have:=ih.2 z hz k hk
    omega
theorem sumN_rest {p:PlanM}{l l':List TokI}:∀{all:List TermM},(∀z∈all,cntK z.key l'=cntK z.key l)→sumN p l' all=sumN p l all
 | [],_=>rfl
 |y::r,h=>by
  show(ndT p y (cntK y.key l')).add (sumN p l' r)=(ndT p y (cntK y.key l)).add (sumN p l r);rw[h y List.mem_cons_self,sumN_rest fun z hz=>h z (List.mem_cons_of_mem _ hz)]
theorem sumN_set {p:PlanM}{l l':List TokI}{u u2:V6}{y y':TermM}:∀{all:List TermM} {i:Nat},all[i]? =some y→(∀j z,all[j]? =some z→j≠i→cntK z.key l'=cntK z.key l)→
  u2.add (ndT p y' (cntK y'.key l'))=u.add (ndT p y (cntK y.key l))→u2.add (sumN p l' (all.set i y'))=u.add (sumN p l all)
 | [],i,h,_,_=>by simp at h
 |z::r,0,h,ho,he=>by
  have h:z=y:=by simpa using h
  subst h;show u2.add ((ndT p y' (cntK y'.key l')).add (sumN p l' r))=u.add ((ndT p z (cntK z.key l)).add (sumN p l r));rw[←V6.add_assoc,he,V6.add_assoc,sumN_rest (l':=l') (l:=l) fun w hw=>by
   obtain⟨j,hj⟩:=List.mem_iff_getElem?.1 hw;exact ho (j+1) w (by simpa using hj) (by omega)]
 |z::r,i+1,h,ho,he=>by
  show u2.add ((ndT p z (cntK z.key l')).add (sumN p l' (r.set i y')))=u.add ((ndT p z (cntK z.key l)).add (sumN p l r));rw[V6.add_left,sumN_set (all:=r) (i:=i) (by simpa using h) (fun j w hw hj=>ho (j+1) w (by simpa using hw) (by omega)) he,V6.add_left,ho 0 z rfl (by omega)]
theorem freshN_set {y y':TermM}(h':y'.recd≠0):∀{all:List TermM} {i:Nat},all[i]? =some y→freshN all=freshN (all.set i y')+(if y.recd=0 then 1 else 0)
 | [],i,h=>by simp at h
 |z::r,0,h=>by
  have h:z=y:=by simpa using h
  subst h;show(if z.recd=0 then 1 else 0)+freshN r=((if y'.recd=0 then 1 else 0)+freshN r)+_
  rw[if_neg h']
  omega
 |z::r,i+1,h=>by
  show(if z.recd=0 then 1 else 0)+freshN r=((if z.recd=0 then 1 else 0)+freshN (r.set i y'))+_
  have:=freshN_set h' (all:=r) (i:=i) (by simpa using h)
  omega
theorem cntK_self (x:TokI)(l:List TokI):cntK (keyB x.1 x.2.1) (x::l)=cntK (keyB x.1 x.2.1) l+1:=by
 show(if keyB x.1 x.2.1=keyB x.1 x.2.1 then 1 else 0)+cntK (keyB x.1 x.2.1) l=_
 rw[if_pos rfl];omega
theorem cntK_other {x:TokI}{key:ByteArray}(l:List TokI)(h:keyB x.1 x.2.1≠key):cntK key (x::l)=cntK key l:=by
 show(if keyB x.1 x.2.1=key then 1 else 0)+cntK key l=_
 rw[if_neg h];omega
theorem mem_len {w:World}{m c:Nat}{μ:MemS}(h:MemAt w m c μ):
  Z 42 #[.pointer (some ⟨m,0,none⟩)] w fun e w'=>e= .returned (I (μ.cells.length:Nat))∧w'=w:=by
 have c0:=h.obj.cell 0;simp only[List.getElem?_cons_zero]at c0;have hs:=h.small;clear h;refine calls_hide fun R' hR'=>?_
 go_enter Tryz.func42,Tryz.ntmps42
 exact c84
def layK3 (cs:List Int)(q:Nat)(id ln born:Int):Nat→List Int
 |0=>cs
 |1=>cs.set q born
 |2=>(cs.set q born).set (q+1) id
 |_=>((cs.set q born).set (q+1) id).set (q+2) ln
def layL (cs:List Int)(q:Nat)(id ln born:Int):List Int:=((cs.set q born).set (q+1) id).set (q+2) ln
theorem layK3_len (cs:List Int)(q:Nat)(id ln born:Int):∀k,(layK3 cs q id ln born k).length=cs.length
 |0=>rfl
 |1=>by simp[layK3]
 |2=>by simp[layK3]
 |k+3=>by simp[layK3]
set_option maxRecDepth 100000 in
set_option maxHeartbeats 4000000 in
theorem ref11_lay (cs:List Int)(b d:Int)(q:Nat)(id ln born:Int)(A:Option Addr)(cp:Nat)(w:World)(K:Nat→Prop)(hb:∀b,K b→b<w.heap.size)(hsl:SlAt w K 1 (.slice A cs.length cp) cs.length (cs.map (Value.int .u32)))(hcn:cs.length≤65536)
  (hbs: -1099511627776≤b∧b≤1099511627776) (hds:0≤d∧d≤65536) (hq:b+4*d=(q:Int)) (hq2:q+2<cs.length):
  Z 66 #[.slice A cs.length cp,I b,I d,J id,J ln,J born] w fun e w'=>∃nb,e= .returned (.tuple #[.slice (some ⟨nb,0,none⟩) cs.length cs.length,.bool true])∧w.heap.size≤nb∧Blk w' nb ((layL cs q id ln born).map (Value.int .u32))∧Keeps (· <w.heap.size) w w':=by
 obtain⟨b0,b1⟩:=hbs;obtain⟨d0,d1⟩:=hds;have hw1:IntKind.i64.wrap (4*d)=4*d:=IntWalk.i64_in _ (by omega)
 have hw2:IntKind.i64.wrap (b+4*d)=(q:Int):=by rw[IntWalk.i64_in _ (by omega),hq]
 have HQ:=hid hq;clear hq;have Hb:=hid hb;have Hsl:=hid hsl;clear hb hsl;refine calls_hide fun R' hR'=>?_
 go_enter Tryz.func66,Tryz.ntmps66
 go_wp2_with fail
 have hka:Keeps (· <w.heap.size) w (w.alloc (.cells #[J born,J id,J ln] 178)):=(Keeps.refl _ _).alloc (fun b hb=>hb) _;have hA:=Blk.new w [J born,J id,J ln] 178;have hsz:(w.alloc (.cells #[J born,J id,J ln] 178)).heap.size=w.heap.size+1:=World.size_alloc _ _;generalize w.alloc (.cells #[J born,J id,J ln] 178)=W1 at*;refine(ref01_copy cs A cp W1 K (fun b hb=>by have:=Hb.out b hb;omega) (Hsl.out.keep hka Hb.out) (by omega) hcn).mono ?_
 rintro e w2 ⟨rfl,hB2,hk2⟩;rw[hsz]at hB2 ⊢;have hA2:=hA.keep hk2 (by omega)
 have hK2:=hka.trans (hk2.mono fun b hb=>by omega)
 clear hka hA hk2 hsz;generalize hBB:w.heap.size=B at*;have HB2:=hid hB2;have HA2:=hid hA2;have HK2:=hid hK2;have HBB:=hid hBB;clear hB2 hA2 hK2 hBB
 go_wp2_with fail
 go_loopw[16] (fun iv wx=>∃(k:Nat),iv=I (k:Int)∧k≤3∧Hid (Blk wx (B+1) ((layK3 cs q id ln born k).map (Value.int .u32)))∧Hid (Blk wx B [J born,J id,J ln])∧Hid (Keeps (· <B) w wx)) (fun iv _=>3-(intOf iv).toNat)
 case atStart=>exact⟨0,rfl,by decide,HB2,HA2,HK2⟩
 case round=>
  clear HB2 HA2 HK2;obtain⟨k,rfl,hk3,HB,HA,HK⟩:=hrel;have hkc:k=0∨k=1∨k=2∨k=3:=by omega
  clear hk3
  rcases hkc with rfl|rfl|rfl|rfl
  ·have hA:=HA.out;have c0:wr.cell? ⟨B,0,none⟩=some (J born):=hA.cell 0;have hlen:((layK3 cs q id ln born 0).map (Value.int .u32)).length=cs.length:=by rw[List.length_map,layK3_len]
   have hwk:IntKind.i64.wrap ((q:Int)+0)=(q:Int):=by rw[IntWalk.i64_in _ (by omega)];omega
   have hin:(q:Int)<(cs.length:Int):=by omega
   have hin0:¬(q:Int)<0:=by omega
   have hd0:decide ((q:Int)<0)=false:=decide_eq_false (by omega)
   have hd1:decide ((cs.length:Int)≤(q:Int))=false:=decide_eq_false (by omega)
   obtain⟨old,hold⟩:∃u,((layK3 cs q id ln born 0).map (Value.int .u32))[q]? =some u:=⟨_,List.getElem?_eq_getElem (by rw[hlen];omega)⟩
   have hcell:=(HB.out.cell q).trans hold;have hfr:=HB.out.free q;have hst:=HB.out.set q (J born);have hst:Blk (wr.setCell ⟨B+1,q,none⟩ (J born)) (B+1) ((layK3 cs q id ln born 1).map (Value.int .u32)):=by
    rw[show(layK3 cs q id ln born 1).map (Value.int .u32)=((layK3 cs q id ln born 0).map (Value.int .u32)).set q (J born)from by simp[layK3,List.map_set]]
    exact hst
   have hA2:=hA.set_ne (a:=⟨B+1,q,none⟩) (J born) (by show B≠B+1;omega)
   have hkk:=HK.out.setCell (p:=⟨B+1,q,none⟩) (fun h=>by have h:B+1<B:=h;omega) (J born)
   clear hA hlen hold;have Hst:=hid hst;have HA2:=hid hA2;have Hkk:=hid hkk;clear hst hA2 hkk
   go_wp2_with fail
   go_roundw
   case rel=>exact⟨1,rfl,by decide,Hst,HA2,Hkk⟩
   case measure=>exact msA
  ·have hA:=HA.out;have c1:wr.cell? ⟨B,1,none⟩=some (J id):=hA.cell 1;have hlen:((layK3 cs q id ln born 1).map (Value.int .u32)).length=cs.length:=by rw[List.length_map,layK3_len]
   have hwk:IntKind.i64.wrap ((q:Int)+1)=((q+1:Nat):Int):=by rw[IntWalk.i64_in _ (by omega)];omega
   have hin:((q+1:Nat):Int)<(cs.length:Int):=by omega
   have hin0:¬((q+1:Nat):Int)<0:=by omega
   have hd0:decide (((q+1:Nat):Int)<0)=false:=decide_eq_false (by omega)
   have hd1:decide ((cs.length:Int)≤((q+1:Nat):Int))=false:=decide_eq_false (by omega)
   obtain⟨old,hold⟩:∃u,((layK3 cs q id ln born 1).map (Value.int .u32))[(q+1)]? =some u:=⟨_,List.getElem?_eq_getElem (by rw[hlen];omega)⟩
   have hcell:=(HB.out.cell (q+1)).trans hold;have hfr:=HB.out.free (q+1);have hst:=HB.out.set (q+1) (J id);have hst:Blk (wr.setCell ⟨B+1,(q+1),none⟩ (J id)) (B+1) ((layK3 cs q id ln born 2).map (Value.int .u32)):=by
    rw[show(layK3 cs q id ln born 2).map (Value.int .u32)=((layK3 cs q id ln born 1).map (Value.int .u32)).set (q+1) (J id)from by simp[layK3,List.map_set]]
    exact hst
   have hA2:=hA.set_ne (a:=⟨B+1,(q+1),none⟩) (J id) (by show B≠B+1;omega)
   have hkk:=HK.out.setCell (p:=⟨B+1,(q+1),none⟩) (fun h=>by have h:B+1<B:=h;omega) (J id)
   clear hA hlen hold;have Hst:=hid hst;have HA2:=hid hA2;have Hkk:=hid hkk;clear hst hA2 hkk
   go_wp2_with fail
   go_roundw
   case rel=>exact⟨2,rfl,by decide,Hst,HA2,Hkk⟩
   case measure=>exact msA
  ·have hA:=HA.out;have c2:wr.cell? ⟨B,2,none⟩=some (J ln):=hA.cell 2;have hlen:((layK3 cs q id ln born 2).map (Value.int .u32)).length=cs.length:=by rw[List.length_map,layK3_len]
   have hwk:IntKind.i64.wrap ((q:Int)+2)=((q+2:Nat):Int):=by rw[IntWalk.i64_in _ (by omega)];omega
   have hin:((q+2:Nat):Int)<(cs.length:Int):=by omega
   have hin0:¬((q+2:Nat):Int)<0:=by omega
   have hd0:decide (((q+2:Nat):Int)<0)=false:=decide_eq_false (by omega)
   have hd1:decide ((cs.length:Int)≤((q+2:Nat):Int))=false:=decide_eq_false (by omega)
   obtain⟨old,hold⟩:∃u,((layK3 cs q id ln born 2).map (Value.int .u32))[(q+2)]? =some u:=⟨_,List.getElem?_eq_getElem (by rw[hlen];omega)⟩
   have hcell:=(HB.out.cell (q+2)).trans hold;have hfr:=HB.out.free (q+2);have hst:=HB.out.set (q+2) (J ln);have hst:Blk (wr.setCell ⟨B+1,(q+2),none⟩ (J ln)) (B+1) ((layK3 cs q id ln born 3).map (Value.int .u32)):=by
    rw[show(layK3 cs q id ln born 3).map (Value.int .u32)=((layK3 cs q id ln born 2).map (Value.int .u32)).set (q+2) (J ln)from by simp[layK3,List.map_set]]
    exact hst
   have hA2:=hA.set_ne (a:=⟨B+1,(q+2),none⟩) (J ln) (by show B≠B+1;omega)
   have hkk:=HK.out.setCell (p:=⟨B+1,(q+2),none⟩) (fun h=>by have h:B+1<B:=h;omega) (J ln)
   clear hA hlen hold;have Hst:=hid hst;have HA2:=hid hA2;have Hkk:=hid hkk;clear hst hA2 hkk
   go_wp2_with fail
   go_roundw
   case rel=>exact⟨3,rfl,by decide,Hst,HA2,Hkk⟩
   case measure=>exact msA
  ·go_wp2_with fail
   exact hR'.out _ _ ⟨B+1,rfl,by omega,HB.out,HK.out⟩
end Go.Proofs.YtogdknnkhkjmcaaGreatDoor
