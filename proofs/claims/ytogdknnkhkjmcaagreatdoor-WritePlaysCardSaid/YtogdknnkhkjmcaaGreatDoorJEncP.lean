/- Layer 6's document: Stop and Words. -/
import Derived.Test.YtogdknnkhkjmcaaGreatDoorRef6
namespace Go.Proofs.YtogdknnkhkjmcaaGreatDoor
open Go.RowKit
set_option linter.all false
def stopsB:List ByteArray:=stopsP.map fun l=>⟨l.toArray⟩
theorem stopsB_len:stopsB.length=17:=rfl
theorem stopP_any (s:ByteArray):stopP s=stopsB.any fun t=>t.toList==s.toList:=by
 unfold stopP stopsB;rw[List.any_map]
 congr 1
 funext l
 show(s.toList==l)=((⟨l.toArray⟩:ByteArray).toList==s.toList);rw[Bool.eq_iff_iff,beq_iff_eq,beq_iff_eq,ByteArray.toList_eq,ByteArray.toList_eq];exact⟨fun h=>h.symm,fun h=>h.symm⟩
theorem stops_cells (w:World)(T:TypeId):∀(i:Nat) (x:ByteArray),stopsB[i]? =some x→(w.alloc (.cells (stopsB.map Value.string).toArray T)).cell? ⟨w.heap.size,i,none⟩=some (.string x):=fun i x h=>by
 have:=(own_lit w 0 T T 1 17 (stopsB.map Value.string) rfl rfl (by decide) (Nat.zero_le _)).cells (g:=w.heap.size) rfl i (.string x) (by rw[List.getElem?_map,h];rfl)
 rw[Addr.add_lit]at this
 simpa using this
set_option maxRecDepth 100000 in
set_option maxHeartbeats 2000000 in
theorem ref6_stop (s:ByteArray)(w:World):Calls Tryz.prog 107 #[.string s] w fun e w'=>e= .returned (.bool (stopP s))∧Keeps (· <w.heap.size) w w':=by
 have hk0:Keeps (· <w.heap.size) w (w.alloc (.cells (stopsB.map Value.string).toArray 9)):=(Keeps.refl _ _).alloc (fun b hb=>hb) _;have hc:=stops_cells w 9;have hany:=stopP_any s;have hf:∀i:Nat,(∀j x,j<i→stopsB[j]? =some x→(x.toList==s.toList)=false)→17≤i→stopP s=false:=fun i h hi=>by
  rw[hany,Bool.eq_false_iff];intro hc;obtain⟨x,hx,hs⟩:=List.any_eq_true.1 hc;obtain⟨j,hj⟩:=List.getElem?_of_mem hx;have hjl:=(List.getElem?_eq_some_iff.1 hj).1;rw[stopsB_len]at hjl;rw[h j x (by omega) hj]at hs
  cases hs
 have ht:∀(i:Nat) (x:ByteArray),stopsB[i]? =some x→(x.toList==s.toList)=true→stopP s=true:=fun i x h1 h2=>by
  rw[hany];exact List.any_eq_true.2 ⟨x,List.mem_of_getElem? h1,h2⟩
 have Hk0:=hid hk0;have Hc:=hid hc;have Hany:=hid hany;have Hf:=hid hf;have Ht:=hid ht;clear hk0 hc hany hf ht;refine calls_hide fun R' hR'=>?_
 go_enter Tryz.func107,Tryz.ntmps107
 go_wp2
 go_loopw[8] (fun iv wx=>∃i:Nat,iv=I (i:Int)∧i≤17∧w.alloc (.cells (stopsB.map Value.string).toArray 9)=wx∧Hid (∀j x,j<i→stopsB[j]? =some x→(x.toList==s.toList)=false)) (fun iv _=>17-(intOf iv).toNat)
 case atStart=>exact⟨0,rfl,Nat.zero_le _,rfl,hid (fun j x h=>absurd h (by omega))⟩
 case round=>
  obtain⟨i,rfl,hi,rfl,HJ⟩:=hrel
  by_cases hlt:i<17
  ·have hltI:(i:Int)<17:=by omega
   obtain⟨x,hx⟩:∃x,stopsB[i]? =some x:=⟨_,List.getElem?_eq_getElem (by rw[stopsB_len];exact hlt)⟩
   have hcx:=Hc.out i x hx
   by_cases he:(x.toList==s.toList)=true
   ·have hr:=Ht.out i x hx he;clear hx;have Hr:=hid hr;clear hr
    go_wp2_with fail
    refine hR'.out _ _ ⟨?_,Hk0.out⟩;rw[Hr.out]
    rfl
   ·have he:(x.toList==s.toList)=false:=by simpa using he
    have hJ2:∀j y,j<i+1→stopsB[j]? =some y→(y.toList==s.toList)=false:=fun j y h1 h2=>by
     by_cases hj:j=i
     ·subst hj;rw[hx]at h2;injection h2 with h2
      subst h2;exact he
     ·exact HJ.out j y (by omega) h2
    clear hx HJ;have HJ2:=hid hJ2;clear hJ2
    go_wp2_with fail
    go_roundw
    case rel=>exact⟨i+1,by go_num,by omega,by first|trivial|rfl,HJ2⟩
    case measure=>exact msA
  ·have hltI:¬(i:Int)<17:=by omega
   have hr:=Hf.out i HJ.out (by omega)
   clear HJ;have Hr:=hid hr;clear hr
   go_wp2_with fail
   refine hR'.out _ _ ⟨?_,Hk0.out⟩;rw[Hr.out]
def wordsF (l:List (ByteArray×Nat)):List (ByteArray×Nat):=l.filter fun t=> !stopP t.1
theorem wordsF_step (l:List (ByteArray×Nat))(i:Nat)(t:ByteArray×Nat)(h:l[i]? =some t):wordsF (l.take (i+1))=wordsF (l.take i)++(if stopP t.1 then []else [t]):=by
 unfold wordsF;rw[List.take_add_one,h,List.filter_append]
 congr 1
 cases hs:stopP t.1<;>simp[List.filter,hs]
theorem allL_len:∀(l:List Int) (o:List UInt8) (fu so:Bool) (p:Nat),(allL o fu so p l).length≤l.length
 | [],_,_,_,_=>Nat.le_refl _
 |r::l,o,fu,so,p=>by
  rw[allL_cons];have h1:=fun o fu so p=>allL_len l o fu so p
  split
  ·split
   ·have:=h1 [] false false (p+1);simp only[List.length_cons]
    omega
   ·have:=h1 [] false false p;simp only[List.length_cons]
    omega
  ·split
   all_goals
    refine Nat.le_trans (h1 _ _ _ _) ?_
    simp
theorem allS_len (s:ByteArray):(allS s).length≤s.size+1:=by
 refine Nat.le_trans (allL_len _ _ _ _ _) ?_;have:=runesF_len s s.size 0;simp only[List.length_append,List.length_singleton];exact Nat.succ_le_succ this
set_option maxRecDepth 100000 in
set_option maxHeartbeats 2000000 in
theorem ref6_words (s:ByteArray)(hs:s.size≤1000000)(w:World):Calls Tryz.prog 87 #[.string s] w fun e w'=>∃v,e= .returned v∧TokRow w w' v (wordsF (allS s)):=by
 refine calls_hide fun R' hR'=>?_
 go_enter Tryz.func87,Tryz.ntmps87
 go_wp2_with fail
 refine(ref6_all s hs w).mono ?_;rintro e w1 ⟨v,rfl,hO,hk1⟩;obtain⟨A0,c0,rfl⟩:=ownB_form hO;have hal:=allS_len s;have hal:(allS s).length≤1000001:=by omega
 generalize allS s=al at*;have hS:=ownB_slAtS hO;clear hO;have hk2:Keeps (· <w.heap.size) w (w1.alloc (.cells #[] 128)):=hk1.alloc (fun b hb=>Nat.lt_of_lt_of_le hb hk1.size) _;have hO2:(w1.alloc (.cells #[] 128)).ownsRow w1.heap.size 128 3 (.slice (some ⟨w1.heap.size,0,none⟩) 0 0) 0 []:=own_lit w1 w1.heap.size _ _ 3 0 [] rfl rfl (by decide) (Nat.le_refl _)
 have hkw:Keeps (· <w1.heap.size) w1 (w1.alloc (.cells #[] 128)):=(Keeps.refl _ _).alloc (fun b hb=>hb) _;have HS:=hid hS;have Hk1:=hid hk1;have Hk2:=hid hk2;have HO2:=hid hO2;have Hkw:=hid hkw;clear hS hk1 hk2 hO2 hkw
 go_wp2_with fail
 go_loopw[4,11] (fun ov iv wx=>∃(i:Nat) (acc:List (ByteArray×Nat)) (A:Option Addr) (cp:Nat),ov= .slice A acc.length cp∧iv=I (i:Int)∧i≤al.length∧acc.length≤i∧Hid (TokRow w1 wx (.slice A acc.length cp) acc)∧Hid (acc=wordsF (al.take i))) (fun _ iv _=>al.length-(intOf iv).toNat)
 case atStart=>exact⟨0,[],some ⟨w1.heap.size,0,none⟩,0,rfl,rfl,Nat.zero_le _,Nat.le_refl _,hid ⟨HO2.out,Hkw.out⟩,hid rfl⟩
 case round=>
  obtain⟨i,acc,A,cp,rfl,rfl,hi,hai,HR,HE⟩:=hrel
  by_cases hlt:i<al.length
  ·have hltI:(i:Int)<(al.length:Int):=by omega
   obtain⟨⟨tx,p⟩,hx⟩:∃x,al[i]? =some x:=⟨_,List.getElem?_eq_getElem hlt⟩;obtain⟨b,off,hv,hb,hc⟩:=SlAt.rec (f:=tokC) (fun _ _=>rfl) (HS.out.keep HR.out.2 (fun b hb=>hb.2)) i _ hx;subst hv;have hst:=wordsF_step al i _ hx;have a0:=hc 0 _ rfl;have a1:=hc 1 _ rfl;have a2:=hc 2 _ rfl;simp only[Nat.add_zero]at a0;have hbr:=hb.2;have hw1r:=HR.out.2.size;have hb3:b<wr.heap.size:=by omega
   clear hc hb hx;rw[←HE.out]at hst;clear HE
   cases hsp:stopP tx with
   |true=>
    rw[if_pos hsp,List.append_nil]at hst;have Hst:=hid hst;have Hsp:=hid hsp;clear hst hsp
    go_wp2_with fail
    refine(ref6_stop tx wr).mono ?_;rintro e w3 ⟨rfl,hk3⟩;have hR3:=HR.out.calls hk3;rw[Hsp.out];clear HR hk3 a0 a1 a2;have HR3:=hid hR3;clear hR3
    go_wp2_with fail
    go_roundw
    case rel=>exact⟨i+1,acc,A,cp,rfl,by go_num,by omega,by omega,HR3,hid Hst.out.symm⟩
    case measure=>exact msA
   |false=>
    rw[if_neg (by rw[hsp];decide)]at hst
    have Hst:=hid hst;have Hsp:=hid hsp;clear hst hsp
    go_wp2_with fail
    refine(ref6_stop tx wr).mono ?_;rintro e w3 ⟨rfl,hk3⟩;have hR3:=HR.out.calls hk3;have b0:=(World.cell?_of_block (a:=⟨b,off+i*3,none⟩) (hk3.block b hb3)).trans a0;have b1:=(World.cell?_of_block (a:=⟨b,off+i*3+1,none⟩) (hk3.block b hb3)).trans a1;have b2:=(World.cell?_of_block (a:=⟨b,off+i*3+2,none⟩) (hk3.block b hb3)).trans a2;rw[Hsp.out];clear HR hk3 a0 a1 a2
    have HR3:=hid hR3;clear hR3;obtain⟨i0,hi,hz0,hz1,hz2⟩:=info_partsF Tryz.infoTok
    go_wp2_with (at_builtin;go_must (refine wpList_append_own_at _ rfl _ _ 117 rfl (w1.heap.size) 128 i0 (.agg #[.int .u8 0,.string ⟨#[]⟩,I 0]) 3 32 Tryz.underlying117 hi hz0 hz1 hz2 rfl (by decide) (.slice A acc.length cp) acc.length (acc.flatMap tokC) rfl (ownB_keepS HR3.out.1 ((Keeps.refl _ _).alloc (fun b hb=>hb) _)) ⟨w3.heap.size,0,none⟩ 1 1 [.int .u8 0,.string tx,I (p:Int)] rfl (by simp) (own_newsS (own_lit w3 0 _ _ 3 1 [.int .u8 0,.string tx,I (p:Int)] rfl rfl (by decide) (Nat.zero_le _))) ?_ ?_ ?_ ?_ ?_))
    all_goals(try(first|with_reducible exact one1 _ _|with_reducible exact one2 _ _ _|with_reducible exact one4 _ _ _ _ _|with_reducible exact oneM _ _|exact rfl|exact fun _ _=>rfl|exact⟨rfl,rfl⟩|exact⟨rfl,rfl,rfl⟩|exact⟨rfl,rfl,rfl,rfl⟩|(unfold maxLen;omega)|omega|(simp;omega)|(simp;done)))
    (try clear hi)
    (try clear hz0)
    (try clear hz1)
    (try clear hz2)
    all_goals(try(first|exact oneTok (tx,p)|(have:=hai;simp only[maxLen];omega)|(have:=HR3.out.2.size;simp only[World.size_alloc];omega)))
    intro v' w7 hown hgr _ hf;have hN:=HR3.out.push (x:=(tx,p)) hown hgr;obtain⟨A',cp',rfl⟩:=ownB_form hown;clear hown hgr hf HR3;have HN:=hid hN;clear hN
    go_wp2_with fail
    go_roundw
    case rel=>exact⟨i+1,acc++[(tx,p)],A',cp',by simp,by go_num,by omega,by simp;omega,by simpa using HN,hid Hst.out.symm⟩
    case measure=>exact msA
  ·obtain rfl:i=al.length:=by omega
   have hltI:¬(al.length:Int)<(al.length:Int):=by omega
   have he:=HE.out;rw[List.take_length]at he;subst he
   go_wp2_with fail
   exact hR'.out _ _ ⟨_,rfl,HR.out.back Hk1.out⟩
def gB (l:List UInt8)(i:Nat):Nat:=(l[i]?.getD 0).toNat
def dec0 (m:List UInt8):Nat×Nat:=Lib.decodeN m.length (gB m 0) (gB m 1) (gB m 2) (gB m 3)
theorem get_gB (s:ByteArray)(i:Nat):(s.get! i).toNat=gB s.data.toList i:=by
 obtain⟨d⟩:=s;unfold gB;show(d[i]!).toNat=_;rw[Array.getElem!_eq_getD,Array.getD_eq_getD_getElem?,Array.getElem?_toList]
 rfl
theorem bsize (s:ByteArray):s.data.toList.length=s.size:=Array.length_toList
theorem gB_drop (l:List UInt8)(i j:Nat):gB (l.drop i) j=gB l (i+j):=by unfold gB;rw[List.getElem?_drop]
theorem decode_dec0 (s:ByteArray)(p:Nat):Utf8.decode s p=dec0 (s.data.toList.drop p):=by
 rw[Lib.decode_at,get_gB,get_gB,get_gB,get_gB];unfold dec0;rw[gB_drop,gB_drop,gB_drop,gB_drop,List.length_drop]
 rfl
def runesU:Nat→List UInt8→List Int
 |0,_=>[]
 |_+1,[]=>[]
 |f+1,c::m=>((dec0 (c::m)).1:Int)::runesU f ((c::m).drop (dec0 (c::m)).2)
theorem runesF_U (s:ByteArray):∀f p,runesF s f p=runesU f (s.data.toList.drop p)
 |0,_=>rfl
 |f+1,p=>by
  rw[runesF_succ]
  by_cases h:p<s.size
  ·rw[if_pos h,runesF_U s f,decode_dec0];have hl:p<s.data.toList.length:=by simpa using h
   rw[List.drop_eq_getElem_cons hl];show _=_::runesU f _;rw[←List.drop_eq_getElem_cons hl,List.drop_drop]
  ·rw[if_neg h,List.drop_eq_nil_of_le (by have:s.data.toList.length=s.size:=bsize s;omega)]
   rfl
theorem dec0_pos (m:List UInt8):0<(dec0 m).2:=by
 unfold dec0 Lib.decodeN
 repeat' split
 all_goals simp
theorem runesU_more:∀(f:Nat) (m:List UInt8),m.length≤f→runesU (f+1) m=runesU f m
 |0,m,h=>by
  have:m=[]:=List.eq_nil_of_length_eq_zero (by omega)
  subst this;rfl
 |f+1,[],_=>rfl
 |f+1,c::m,h=>by
  have hd:=dec0_pos (c::m);show _::runesU (f+1) _=_::runesU f _;rw[runesU_more f _ (by rw[List.length_drop];omega)]
def runesB (m:List UInt8):List Int:=runesU m.length m
theorem runesU_any (f:Nat)(m:List UInt8)(h:m.length≤f):runesU f m=runesB m:=by
 obtain⟨g,rfl⟩:∃g,f=m.length+g:=⟨f-m.length,by omega⟩
 clear h
 induction g with
 |zero=>rfl
 |succ g ih=>rw[←Nat.add_assoc,runesU_more _ _ (by omega)];exact ih
theorem runesS_B (s:ByteArray):runesS s=runesB s.data.toList:=by
 unfold runesS;rw[runesF_U,List.drop_zero];exact runesU_any _ _ (by rw[bsize];exact Nat.le_refl _)
theorem runesB_cons (c:UInt8)(m:List UInt8):runesB (c::m)=((dec0 (c::m)).1:Int)::runesB ((c::m).drop (dec0 (c::m)).2):=by
 have hd:=dec0_pos (c::m);show _::runesU m.length _=_;rw[runesU_any _ _ (by rw[List.length_drop,List.length_cons];omega)]
def valR (r:Int):Prop:=0≤r∧r≤55295
theorem word_valR {r:Int}(h:isW r=true):valR (foldM r):=by
 have hc:classM r≠0:=by
  intro h0;unfold isW at h;rw[h0]at h
  cases h
 unfold valR;have h1:48≤r∧r≤55203:=by
  rw[classM_ifs]at hc
  omega
 rw[foldM_ifs]
 omega
theorem ofNat_n (n:Nat)(h:n<256):(UInt8.ofNat n).toNat=n:=by
 rw[UInt8.toNat_ofNat',Nat.mod_eq_of_lt h]
set_option maxRecDepth 100000 in
set_option maxHeartbeats 2000000 in
theorem dec_enc (r:Int)(h:valR r)(m:List UInt8):dec0 (encB r++m)=(r.toNat,(encB r).length):=by
 obtain⟨h0,h1⟩:=h;obtain⟨n,rfl⟩:∃n:Nat,r=n:=⟨r.toNat,by omega⟩
 have hv:Utf8.valid (n:Int)=true:=by
  unfold Utf8.valid;have:decide ((n:Int)<0xD800)=true:=decide_eq_true (by omega)
  rw[this]
  simp
 have hn:n≤55295:=by omega
 have hcode:encB (n:Int)=if n<128 then [UInt8.ofNat n]else if n<2048 then [UInt8.ofNat (192+n/64),UInt8.ofNat (128+n%64)]else [UInt8.ofNat (224+n/4096),UInt8.ofNat (128+n/64%64),UInt8.ofNat (128+n%64)]:=by
  unfold encB Utf8.encode;rw[hv];simp only[if_true,Int.toNat_natCast]
  by_cases h1:n<128
  ·rw[if_pos h1,if_pos h1]
  ·rw[if_neg h1,if_neg h1]
   by_cases h2:n<2048
   ·rw[if_pos h2,if_pos h2]
   ·rw[if_neg h2,if_neg h2,if_pos (by omega)]
 rw[hcode,Int.toNat_natCast];clear hcode hv h0 h1
 by_cases h1:n<128
 ·rw[if_pos h1];have e0:gB ([UInt8.ofNat n]++m) 0=n:=ofNat_n n (by omega)
  unfold dec0 Lib.decodeN;rw[e0,if_pos h1]
  rfl
 ·rw[if_neg h1]
  by_cases h2:n<2048
  ·rw[if_pos h2];have e0:gB ([UInt8.ofNat (192+n/64),UInt8.ofNat (128+n%64)]++m) 0=192+n/64:=ofNat_n _ (by omega)
   have e1:gB ([UInt8.ofNat (192+n/64),UInt8.ofNat (128+n%64)]++m) 1=128+n%64:=ofNat_n _ (by omega)
   have el:([UInt8.ofNat (192+n/64),UInt8.ofNat (128+n%64)]++m).length=m.length+2:=by simp
   unfold dec0 Lib.decodeN;rw[e0,e1,el,if_neg (by omega),if_pos (by omega),if_pos (by omega)]
   show(_,2)=(_,2)
   congr 1
   omega
  ·rw[if_neg h2];have e0:gB ([UInt8.ofNat (224+n/4096),UInt8.ofNat (128+n/64%64),UInt8.ofNat (128+n%64)]++m) 0=224+n/4096:=ofNat_n _ (by omega)
   have e1:gB ([UInt8.ofNat (224+n/4096),UInt8.ofNat (128+n/64%64),UInt8.ofNat (128+n%64)]++m) 1=128+n/64%64:=ofNat_n _ (by omega)
   have e2:gB ([UInt8.ofNat (224+n/4096),UInt8.ofNat (128+n/64%64),UInt8.ofNat (128+n%64)]++m) 2=128+n%64:=ofNat_n _ (by omega)
   have el:([UInt8.ofNat (224+n/4096),UInt8.ofNat (128+n/64%64),UInt8.ofNat (128+n%64)]++m).length=m.length+3:=by simp
   unfold dec0 Lib.decodeN;rw[e0,e1,e2,el,if_neg (by omega),if_neg (by omega),if_pos (by omega),if_pos (by omega)]
   show(_,3)=(_,3)
   congr 1
   omega
theorem runesB_enc (r:Int)(h:valR r)(m:List UInt8):runesB (encB r++m)=r::runesB m:=by
 have hp:=encB_pos r;have hd:=dec_enc r h m
 cases he:encB r with
 |nil=>rw[he]at hp;cases hp
 |cons c t=>
  rw[he]at hd;rw[List.cons_append]at hd ⊢;rw[runesB_cons,hd];have:((r.toNat:Nat):Int)=r:=by have:=h.1;omega
  rw[this]
  congr 2
  show(c::(t++m)).drop (c::t).length=m;rw[←List.cons_append,List.drop_left]
theorem runes_textV:∀(l:List Int),(∀r∈l,valR r)→runesB (textB l)=l
 | [],_=>rfl
 |r::l,h=>by
  rw[textB_cons,runesB_enc r (h r (List.mem_cons_self ..)),runes_textV l fun x hx=>h x (List.mem_cons_of_mem _ hx)]
theorem termP_fit (ws:List Int)(h:∀r∈ws,isW r=true):termP ws=⟨(fitL 16 [] (ws.map foldM)).toArray⟩:=by
 unfold termP fitS;rw[runesS_B];show(⟨(fitL 16 [] (runesB (textB (ws.map foldM)))).toArray⟩:ByteArray)=_;rw[runes_textV _ fun r hr=>by
  obtain⟨x,hx,rfl⟩:=List.mem_map.1 hr;exact word_valR (h x hx)]
theorem allL_word:∀(ws:List Int),(∀r∈ws,isW r=true)→∀(o:List UInt8) (fu:Bool) (p:Nat) (r:Int) (l:List Int),isW r=false→
  allL o fu true p (ws++r::l)=(⟨(if fu then o else fitL 16 o (ws.map foldM)).toArray⟩,p)::allL [] false false (p+1) l
 | [],_,o,fu,p,r,l,hr=>by
  rw[List.nil_append,allL_cons,if_pos hr,if_pos rfl]
  cases fu<;>rfl
 |a::ws,hw,o,fu,p,r,l,hr=>by
  have ha:=hw a (List.mem_cons_self ..);have ih:=allL_word ws fun x hx=>hw x (List.mem_cons_of_mem _ hx);rw[List.cons_append,allL_cons,if_neg (by rw[ha];decide),List.map_cons,fitL_cons]
  cases fu with
  |true=>
   rw[Bool.true_or,if_pos rfl,ih _ _ _ _ _ hr]
   rfl
  |false=>
   rw[Bool.false_or]
   by_cases hb:16<o.length+(encB (foldM a)).length
   ·rw[if_pos (decide_eq_true hb),ih _ _ _ _ _ hr,if_pos rfl,if_neg (by decide),if_pos (by omega:(encB (foldM a)).length+o.length>16)]
   ·rw[if_neg (by simpa using hb),ih _ _ _ _ _ hr,if_neg (by decide),if_neg (by decide),if_neg (by omega:¬(encB (foldM a)).length+o.length>16)]
theorem allL_some (o:List UInt8)(fu so:Bool)(p:Nat)(r:Int)(l:List Int)(h:isW r=true):allL o fu so p (r::l)=allL o fu true p (r::l):=by
 have e:¬(true=false):=by decide
 rw[allL_cons,allL_cons,h,if_neg e,if_neg e]
theorem tw_all (f:Int→Bool):∀(l:List Int),∀x∈l.takeWhile f,f x=true
 | [],x,h=>by cases h
 |a::l,x,h=>by
  rw[List.takeWhile_cons]at h
  cases ha:f a with
  |false=>rw[ha]at h;cases h
  |true=>
   rw[ha]at h
   rcases List.mem_cons.1 h with rfl|h
   ·exact ha
   ·exact tw_all f l x h
theorem isW_32:isW 32=false:=rfl
theorem words_eqL:∀(N:Nat) (l:List Int) (p:Nat),l.length≤N→wordsF (allL [] false false p (l++[32]))=wordsR p l
 |_,[],p,_=>by rw[wordsR_nil];rfl
 |0,_::_,_,h=>absurd h (by simp)
 |N+1,r::l,p,h=>by
  rw[List.length_cons]at h;rw[wordsR_cons]
  cases hr:isW r with
  |false=>
   rw[List.cons_append,allL_cons,if_pos hr,if_neg (by decide),if_neg (by decide)]
   exact words_eqL N l p (by omega)
  |true=>
   rw[if_pos rfl];have hsplit:r::l=(r::l.takeWhile isW)++l.dropWhile isW:=by rw[List.cons_append,List.takeWhile_append_dropWhile]
   have hall:∀x∈r::l.takeWhile isW,isW x=true:=fun x hx=>by
    rcases List.mem_cons.1 hx with rfl|hx
    ·exact hr
    ·exact tw_all isW l x hx
   have hterm:=termP_fit _ hall;have hlen:=dw_len l;rw[hsplit];have htw:(r::l.takeWhile isW).length≤(r::l).length:=by
    simp only[List.length_cons];have:=(List.takeWhile_sublist isW (l:=l)).length_le
    omega
   cases hd:l.dropWhile isW with
   |nil=>
    rw[List.append_nil,List.cons_append,allL_some _ _ _ _ _ _ hr,←List.cons_append,allL_word _ hall _ _ _ _ _ isW_32,if_neg (by decide),←hterm]
    have h0:allL [] false false (p+1) []=[]:=rfl;rw[h0];show wordsF [_]=if _ then wordsR (p+1) ([]:List Int)else _::wordsR (p+1) ([]:List Int)
    rw[wordsR_nil];unfold wordsF;rw[List.filter_cons]
    cases stopP (termP (r::l.takeWhile isW))<;>rfl
   |cons d ds=>
    have hdw:isW d=false:=by
     have:=List.head?_dropWhile_not isW l;rw[hd]at this
     simpa using this
    have hdl:ds.length≤N:=by
     rw[hd]at hlen;simp only[List.drop_one,List.tail_cons]at hlen
     omega
    rw[List.append_assoc,List.cons_append,List.cons_append,allL_some _ _ _ _ _ _ hr,←List.cons_append,allL_word _ hall _ _ _ _ _ hdw,if_neg (by decide),←hterm]
    show wordsF (_::_)=if _ then wordsR (p+1) ds else _::wordsR (p+1) ds
    rw[←words_eqL N ds (p+1) hdl];unfold wordsF;rw[List.filter_cons]
    cases stopP (termP (r::l.takeWhile isW))<;>rfl
theorem words_eq (s:ByteArray):wordsF (allS s)=wordsR 0 (runesS s):=words_eqL _ _ _ (Nat.le_refl _)
end Go.Proofs.YtogdknnkhkjmcaaGreatDoor
