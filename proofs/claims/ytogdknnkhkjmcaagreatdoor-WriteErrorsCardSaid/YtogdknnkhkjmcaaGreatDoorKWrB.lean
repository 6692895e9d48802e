/- Lemmas on the programs that the statement reaches. -/
import Derived.Test.YtogdknnkhkjmcaaGreatDoorKWrS
namespace Go.Proofs.YtogdknnkhkjmcaaGreatDoor
open Go.RowKit
set_option linter.all false
def stopsB:List ByteArray:=stopsP.map fun l=>⟨l.toArray⟩
theorem stopsB_len:stopsB.length=17:=rfl
theorem stopP_any (s:ByteArray):stopP s=stopsB.any fun t=>t.toList==s.toList:=by
 unfold stopP stopsB;rw[List.any_map]
 congr 1
 funext l
 show(s.toList==l)=((⟨l.toArray⟩:ByteArray).toList==s.toList);rw[Bool.eq_iff_iff,beq_iff_eq,beq_iff_eq,ByteArray.toList_eq,ByteArray.toList_eq];exact⟨fun h=>h.symm,fun h=>h.symm⟩
theorem stops_cells (w:World)(T:TypeId):∀(i:Nat) (x:ByteArray),stopsB[i]? =some x→(w.alloc (.cells (stopsB.map Value.string).toArray T)).cell? ⟨w.heap.size,i,none⟩=some (.string x):=fun i x h=>by
 have:=(own_lit w 0 T T 1 17 (stopsB.map Value.string) rfl rfl (by decide) (Nat.zero_le _)).cells (g:=w.heap.size) rfl i (.string x) (by rw[List.getElem?_map,h];rfl)
 rw[Addr.add_lit]at this
 simpa using this
set_option maxRecDepth 100000 in
set_option maxHeartbeats 2000000 in
theorem ref6_stop (s:ByteArray)(w:World):Z 107 #[.string s] w fun e w'=>e= .returned (.bool (stopP s))∧Keeps (· <w.heap.size) w w':=by
 have hk0:Keeps (· <w.heap.size) w (w.alloc (.cells (stopsB.map Value.string).toArray 9)):=(Keeps.refl _ _).alloc (fun b hb=>hb) _;have hc:=stops_cells w 9;have hany:=stopP_any s;have hf:∀i:Nat,(∀j x,j<i→stopsB[j]? =some x→(x.toList==s.toList)=false)→17≤i→stopP s=false:=fun i h hi=>by
  rw[hany,Bool.eq_false_iff];intro hc;obtain⟨x,hx,hs⟩:=List.any_eq_true.1 hc;obtain⟨j,hj⟩:=List.getElem?_of_mem hx;have hjl:=(List.getElem?_eq_some_iff.1 hj).1;rw[stopsB_len]at hjl;rw[h j x (by omega) hj]at hs
  cases hs
 have ht:∀(i:Nat) (x:ByteArray),stopsB[i]? =some x→(x.toList==s.toList)=true→stopP s=true:=fun i x h1 h2=>by
  rw[hany];exact List.any_eq_true.2 ⟨x,List.mem_of_getElem? h1,h2⟩
 have Hk0:=hid hk0;have Hc:=hid hc;have Hany:=hid hany;have Hf:=hid hf;have Ht:=hid ht;clear hk0 hc hany hf ht;refine calls_hide fun R' hR'=>?_
 go_enter Tryz.func107,Tryz.ntmps107
 go_wp2
 go_loopw[8] (fun iv wx=>∃i:Nat,iv=I (i:Int)∧i≤17∧w.alloc (.cells (stopsB.map Value.string).toArray 9)=wx∧Hid (∀j x,j<i→stopsB[j]? =some x→(x.toList==s.toList)=false)) (fun iv _=>17-(intOf iv).toNat)
 case atStart=>exact⟨0,rfl,Nat.zero_le _,rfl,hid (fun j x h=>absurd h (by omega))⟩
 case round=>
  obtain⟨i,rfl,hi,rfl,HJ⟩:=hrel
  by_cases hlt:i<17
  ·have hltI:(i:Int)<17:=by omega
   obtain⟨x,hx⟩:∃x,stopsB[i]? =some x:=⟨_,List.getElem?_eq_getElem (by rw[stopsB_len];exact hlt)⟩
   have hcx:=Hc.out i x hx
   by_cases he:(x.toList==s.toList)=true
   ·have hr:=Ht.out i x hx he;clear hx;have Hr:=hid hr;clear hr
    go_wp2_with fail
    refine hR'.out _ _ ⟨?_,Hk0.out⟩;rw[Hr.out]
    rfl
   ·have he:(x.toList==s.toList)=false:=by simpa using he
    have hJ2:∀j y,j<i+1→stopsB[j]? =some y→(y.toList==s.toList)=false:=fun j y h1 h2=>by
     by_cases hj:j=i
     ·subst hj;rw[hx]at h2;injection h2 with h2
      subst h2;exact he
     ·exact HJ.out j y (by omega) h2
    clear hx HJ;have HJ2:=hid hJ2;clear hJ2
    go_wp2_with fail
    go_roundw
    case rel=>exact⟨i+1,by go_num,by omega,by first|trivial|rfl,HJ2⟩
    case measure=>exact msA
  ·have hltI:¬(i:Int)<17:=by omega
   have hr:=Hf.out i HJ.out (by omega)
   clear HJ;have Hr:=hid hr;clear hr
   go_wp2_with fail
   refine hR'.out _ _ ⟨?_,Hk0.out⟩;rw[Hr.out]
def wordsF (l:List (ByteArray×Nat)):List (ByteArray×Nat):=l.filter fun t=> !stopP t.1
theorem wordsF_step (l:List (ByteArray×Nat))(i:Nat)(t:ByteArray×Nat)(h:l[i]? =some t):wordsF (l.take (i+1))=wordsF (l.take i)++(if stopP t.1 then []else [t]):=by
 unfold wordsF;rw[List.take_add_one,h,List.filter_append]
 congr 1
 cases hs:stopP t.1<;>simp[List.filter,hs]
theorem allL_len:∀(l:List Int) (o:List UInt8) (fu so:Bool) (p:Nat),(allL o fu so p l).length≤l.length
 | [],_,_,_,_=>Nat.le_refl _
 |r::l,o,fu,so,p=>by
  rw[allL_cons];have h1:=fun o fu so p=>allL_len l o fu so p
  split
  ·split
   ·have:=h1 [] false false (p+1);simp only[List.length_cons]
    omega
   ·have:=h1 [] false false p;simp only[List.length_cons]
    omega
  ·split
   all_goals
    refine Nat.le_trans (h1 _ _ _ _) ?_
    simp
theorem allS_len (s:ByteArray):(allS s).length≤s.size+1:=by
 refine Nat.le_trans (allL_len _ _ _ _ _) ?_;have:=runesF_len s s.size 0;simp only[List.length_append,List.length_singleton];exact Nat.succ_le_succ this
set_option maxRecDepth 100000 in
set_option maxHeartbeats 2000000 in
theorem ref6_words (s:ByteArray)(hs:s.size≤1000000)(w:World):Z 87 #[.string s] w fun e w'=>∃v,e= .returned v∧TokRow w w' v (wordsF (allS s)):=by
 refine calls_hide fun R' hR'=>?_
 go_enter Tryz.func87,Tryz.ntmps87
 go_wp2_with fail
 refine(ref6_all s hs w).mono ?_;rintro e w1 ⟨v,rfl,hO,hk1⟩;obtain⟨A0,c0,rfl⟩:=ownB_form hO;have hal:=allS_len s;have hal:(allS s).length≤1000001:=by omega
 generalize allS s=al at*;have hS:=ownB_slAtS hO;clear hO;have hk2:Keeps (· <w.heap.size) w (w1.alloc (.cells #[] 128)):=hk1.alloc (fun b hb=>Nat.lt_of_lt_of_le hb hk1.size) _;have hO2:(w1.alloc (.cells #[] 128)).ownsRow w1.heap.size 128 3 (.slice (some ⟨w1.heap.size,0,none⟩) 0 0) 0 []:=own_lit w1 w1.heap.size _ _ 3 0 [] rfl rfl (by decide) (Nat.le_refl _)
 have hkw:Keeps (· <w1.heap.size) w1 (w1.alloc (.cells #[] 128)):=(Keeps.refl _ _).alloc (fun b hb=>hb) _;have HS:=hid hS;have Hk1:=hid hk1;have Hk2:=hid hk2;have HO2:=hid hO2;have Hkw:=hid hkw;clear hS hk1 hk2 hO2 hkw
 go_wp2_with fail
 go_loopw[4,11] (fun ov iv wx=>∃(i:Nat) (acc:List (ByteArray×Nat)) (A:Option Addr) (cp:Nat),ov= .slice A acc.length cp∧iv=I (i:Int)∧i≤al.length∧acc.length≤i∧Hid (TokRow w1 wx (.slice A acc.length cp) acc)∧Hid (acc=wordsF (al.take i))) (fun _ iv _=>al.length-(intOf iv).toNat)
 case atStart=>exact⟨0,[],some ⟨w1.heap.size,0,none⟩,0,rfl,rfl,Nat.zero_le _,Nat.le_refl _,hid ⟨HO2.out,Hkw.out⟩,hid rfl⟩
 case round=>
  obtain⟨i,acc,A,cp,rfl,rfl,hi,hai,HR,HE⟩:=hrel
  by_cases hlt:i<al.length
  ·have hltI:(i:Int)<(al.length:Int):=by omega
   obtain⟨⟨tx,p⟩,hx⟩:∃x,al[i]? =some x:=⟨_,List.getElem?_eq_getElem hlt⟩;obtain⟨b,off,hv,hb,hc⟩:=SlAt.rec (f:=tokC) (fun _ _=>rfl) (HS.out.keep HR.out.2 (fun b hb=>hb.2)) i _ hx;subst hv;have hst:=wordsF_step al i _ hx;have a0:=hc 0 _ rfl;have a1:=hc 1 _ rfl;have a2:=hc 2 _ rfl;simp only[Nat.add_zero]at a0;have hbr:=hb.2;have hw1r:=HR.out.2.size;have hb3:b<wr.heap.size:=by omega
   clear hc hb hx;rw[←HE.out]at hst;clear HE
   cases hsp:stopP tx with
   |true=>
    rw[if_pos hsp,List.append_nil]at hst;have Hst:=hid hst;have Hsp:=hid hsp;clear hst hsp
    go_wp2_with fail
    refine(ref6_stop tx wr).mono ?_;rintro e w3 ⟨rfl,hk3⟩;have hR3:=HR.out.calls hk3;rw[Hsp.out];clear HR hk3 a0 a1 a2;have HR3:=hid hR3;clear hR3
    go_wp2_with fail
    go_roundw
    case rel=>exact⟨i+1,acc,A,cp,rfl,by go_num,by omega,by omega,HR3,hid Hst.out.symm⟩
    case measure=>exact msA
   |false=>
    rw[if_neg (by rw[hsp];decide)]at hst
    have Hst:=hid hst;have Hsp:=hid hsp;clear hst hsp
    go_wp2_with fail
    refine(ref6_stop tx wr).mono ?_;rintro e w3 ⟨rfl,hk3⟩;have hR3:=HR.out.calls hk3;have b0:=(World.cell?_of_block (a:=⟨b,off+i*3,none⟩) (hk3.block b hb3)).trans a0;have b1:=(World.cell?_of_block (a:=⟨b,off+i*3+1,none⟩) (hk3.block b hb3)).trans a1;have b2:=(World.cell?_of_block (a:=⟨b,off+i*3+2,none⟩) (hk3.block b hb3)).trans a2;rw[Hsp.out];clear HR hk3 a0 a1 a2
    have HR3:=hid hR3;clear hR3;obtain⟨i0,hi,hz0,hz1,hz2⟩:=info_partsF Tryz.infoTok
    go_wp2_with (at_builtin;go_must (refine wpList_append_own_at _ rfl _ _ 117 rfl (w1.heap.size) 128 i0 (.agg #[.int .u8 0,.string ⟨#[]⟩,I 0]) 3 32 Tryz.underlying117 hi hz0 hz1 hz2 rfl (by decide) (.slice A acc.length cp) acc.length (acc.flatMap tokC) rfl (ownB_keepS HR3.out.1 ((Keeps.refl _ _).alloc (fun b hb=>hb) _)) ⟨w3.heap.size,0,none⟩ 1 1 [.int .u8 0,.string tx,I (p:Int)] rfl (by simp) (own_newsS (own_lit w3 0 _ _ 3 1 [.int .u8 0,.string tx,I (p:Int)] rfl rfl (by decide) (Nat.zero_le _))) ?_ ?_ ?_ ?_ ?_))
    all_goals(try(first|with_reducible exact one1 _ _|with_reducible exact one2 _ _ _|with_reducible exact one4 _ _ _ _ _|with_reducible exact oneM _ _|exact rfl|exact fun _ _=>rfl|exact⟨rfl,rfl⟩|exact⟨rfl,rfl,rfl⟩|exact⟨rfl,rfl,rfl,rfl⟩|(unfold maxLen;omega)|omega|(simp;omega)|(simp;done)))
    (try clear hi)
    (try clear hz0)
    (try clear hz1)
    (try clear hz2)
    all_goals(try(first|exact oneTok (tx,p)|(have:=hai;simp only[maxLen];omega)|(have:=HR3.out.2.size;simp only[World.size_alloc];omega)))
    intro v' w7 hown hgr _ hf;have hN:=HR3.out.push (x:=(tx,p)) hown hgr;obtain⟨A',cp',rfl⟩:=ownB_form hown;clear hown hgr hf HR3;have HN:=hid hN;clear hN
    go_wp2_with fail
    go_roundw
    case rel=>exact⟨i+1,acc++[(tx,p)],A',cp',by simp,by go_num,by omega,by simp;omega,by simpa using HN,hid Hst.out.symm⟩
    case measure=>exact msA
  ·obtain rfl:i=al.length:=by omega
   have hltI:¬(al.length:Int)<(al.length:Int):=by omega
   have he:=HE.out;rw[List.take_length]at he;subst he
   go_wp2_with fail
   exact hR'.out _ _ ⟨_,rfl,HR.out.back Hk1.out⟩
set_option maxRecDepth 100000 in
set_option maxHeartbeats 1000000 in
theorem write_base (x:SegM)(w:World)(ha:Small x.addr):Z 31 #[.agg #[I x.addr,I x.docs,.bool x.sealed]] w fun e w'=>e= .returned (I x.base)∧Keeps (· <w.heap.size) w w':=by
 obtain⟨addr,docs,sealed⟩:=x;have hk:Keeps (· <w.heap.size) w (w.alloc (.cells #[I addr,I docs,.bool sealed] 65)):=(Keeps.refl _ _).alloc (fun b hb=>hb) _;obtain⟨h0,h1⟩:=ha;dsimp only at h0 h1;have Hk:=hid hk;clear hk;refine calls_hide fun R' hR'=>?_
 go_enter Tryz.func31,Tryz.ntmps31
 cases sealed with
 |true=>
  go_wp2_with fail
  exact hR'.out _ _ ⟨rfl,Hk.out⟩
 |false=>
  go_wp2_with fail
  exact hR'.out _ _ ⟨rfl,Hk.out⟩
theorem placeT_cons (id:Int)(x:SegM)(l:List SegM)(i:Nat)(s:St):(placeT id (x::l) i).exec s=if 0≤((findT x.base id x.docs 0).exec s).1 then(((i:Int),((findT x.base id x.docs 0).exec s).1,true),((findT x.base id x.docs 0).exec s).2)else(placeT id l (i+1)).exec ((findT x.base id x.docs 0).exec s).2:=by
 show((findT x.base id x.docs 0).bind _).exec s=_;rw[Tree.exec_bind]
 split<;>rfl
theorem SegM.len3 (l:List SegM):∀x∈l,x.cells.length=3:=fun _ _=>rfl
theorem Small.base {x:SegM}(h: -1099511627700≤x.addr∧x.addr≤1099511627700):Small x.base:=by
 unfold SegM.base Small
 split<;>omega
theorem findT_range (b id:Int):∀(n d:Nat) (s:St),-1≤((findT b id n d).exec s).1∧((findT b id n d).exec s).1≤(n+d:Nat)
 |0,d,s=>⟨Int.le_refl _,by show(-1:Int)≤_;omega⟩
 |n+1,d,s=>by
  rw[findT_step]
  split
  ·exact⟨Int.le_refl _,by show(-1:Int)≤_;omega⟩
  ·split
   ·exact⟨by show(-1:Int)≤(d:Int);omega,by show(d:Int)≤_;omega⟩
   ·have:=findT_range b id n (d+1) (s.load (b+4*d+1)).2;exact⟨this.1,by have:=this.2;omega⟩
set_option maxRecDepth 100000 in
set_option maxHeartbeats 4000000 in
theorem write_place {w:World}{K:Nat→Prop}{r m c:Nat}{s:St}(h:RM w K r m c s)(W:WrM)(A:Option Addr)(cp:Nat)(id:Int)(hsl:SlAt w K 3 (.slice A W.segs.length cp) W.segs.length (W.segs.flatMap SegM.cells))
  (hok:∀x∈W.segs,(-1099511627700≤x.addr∧x.addr≤1099511627700)∧x.docs≤65536) (hn:W.segs.length≤65536) (hi:U32 id):
  Z 45 #[.pointer (some ⟨r,0,none⟩),.agg (W.vals (.slice A W.segs.length cp)).toArray,J id] w fun e w'=>
   e= .returned (.tuple #[I ((placeT id W.segs 0).exec s).1.1,I ((placeT id W.segs 0).exec s).1.2.1,.bool ((placeT id W.segs 0).exec s).1.2.2])∧RM w' K r m c ((placeT id W.segs 0).exec s).2∧Keeps K w w':=by
 obtain⟨segs,wt,wv,u0,u1,u2,u3,u4,u5⟩:=W;dsimp only at hsl hok hn ⊢;have hw0:(WrM.mk segs wt wv ⟨u0,u1,u2,u3,u4,u5⟩).vals (.slice A segs.length cp)=[.slice A segs.length cp,I wt,J wv,I u0,I u1,I u2,I u3,I u4,I u5]:=rfl;rw[hw0];clear hw0;have hlt:=h.lt;have hkw:Keeps K w (w.alloc (.cells #[.slice A segs.length cp,I wt,J wv,I u0,I u1,I u2,I u3,I u4,I u5] 46)):=(Keeps.refl _ _).alloc hlt _
 have hr1:RM (w.alloc (.cells #[.slice A segs.length cp,I wt,J wv,I u0,I u1,I u2,I u3,I u4,I u5] 46)) K r m c s:=h.alloc _;obtain⟨t,ht⟩:∃t,t=(placeT id segs 0).exec s:=⟨_,rfl⟩;rw[←ht];have Hsl:=hid hsl;have Hok:=hid hok;have Hlt:=hid hlt;have Hkw:=hid hkw;have Hr1:=hid hr1;have Ht:=hid ht;have Hi:=hid hi;clear hsl hok hlt hkw hr1 ht hi;clear h;refine calls_hide fun R' hR'=>?_
 go_enter Tryz.func45,Tryz.ntmps45
 go_wp2_with fail
 go_loopw[15] (fun iv wx=>∃(i:Nat) (s':St),iv=I (i:Int)∧i≤segs.length∧Hid (t=(placeT id (segs.drop i) i).exec s')∧Hid (RM wx K r m c s')∧Hid (Keeps K w wx)) (fun iv _=>segs.length-(intOf iv).toNat)
 case atStart=>exact⟨0,s,rfl,Nat.zero_le _,Ht,Hr1,Hkw⟩
 case round=>
  obtain⟨i,s',rfl,hile,HT,HR,HK⟩:=hrel
  by_cases hil:i<segs.length
  ·have hilI:(i:Int)<(segs.length:Int):=by omega
   obtain⟨x,hx⟩:∃x,segs[i]? =some x:=⟨_,List.getElem?_eq_getElem hil⟩;obtain⟨b0,o0,rfl,hkb,g1⟩:=SlAt.rec (SegM.len3 segs) Hsl.out i x hx;obtain⟨⟨x0,x1⟩,x2⟩:=Hok.out x (List.mem_of_getElem? hx);have hh0:=Hlt.out _ hkb;have hst:t=if 0≤((findT x.base id x.docs 0).exec s').1 then(((i:Int),((findT x.base id x.docs 0).exec s').1,true),((findT x.base id x.docs 0).exec s').2)else(placeT id (segs.drop (i+1)) (i+1)).exec ((findT x.base id x.docs 0).exec s').2:=by
    obtain⟨h9,h8⟩:=List.getElem?_eq_some_iff.1 hx;rw[HT.out,List.drop_eq_getElem_cons h9,h8,placeT_cons]
   have hfr:=findT_range x.base id x.docs 0 s';have hbs:=Small.base ⟨x0,x1⟩;have zz110:=PLift.up @c556;exact c555
  ·obtain rfl:i=segs.length:=by omega
   have hilI:¬(segs.length:Int)<(segs.length:Int):=by omega
   have hres:t=((0,0,false),s'):=by rw[HT.out,List.drop_length];rfl
   clear HT;have Hres:=hid hres;clear hres
   go_wp2_with fail
   exact hR'.out _ _ ⟨by first|(rw[Hres.out];done)|(rw[Hres.out];rfl),by rw[Hres.out];exact HR.out,HK.out⟩
theorem Tryz.infoTerm:(Tryz.prog.info? 154).map (fun i=>(i.zero,i.size,i.bytes))=some (some (.agg #[.string ⟨#[]⟩,I 0,I 0,I 0]),4,40):=by kernel_rfl
theorem TermM.len4 (t:TermM):t.cells.length=4:=rfl
def TermOwn (w:World)(K:Nat→Prop)(v:Value)(l:List TermM):Prop:=
 w.ownsRow 0 154 4 v l.length (l.flatMap TermM.cells)∧∀b,v.ownBlock=some b→¬K b
theorem bsL_key (f:Int)(t:ByteArray)(h:0≤f∧f≤255):bsL (keyB f t)=f::bsL t:=by
 unfold bsL keyB;rw[ByteArray.data_append,Array.toList_append,List.map_append];show((UInt8.ofNat f.toNat).toNat:Int)::_=_;rw[UInt8.toNat_ofNat',Nat.mod_eq_of_lt (by omega)]
 congr 1
 omega
theorem key_of {s t:ByteArray}{f:Int}(h:0≤f∧f≤255)(e:bsL s=f::bsL t):s=keyB f t:=bsL_inj (e.trans (bsL_key f t h).symm)
theorem keyB_size (f:Int)(t:ByteArray):(keyB f t).size=t.size+1:=by
 unfold keyB;rw[ByteArray.size_append];show 1+t.size=_
 omega
theorem keyIx_at {key:ByteArray}{l:List TermM}{i:Nat}{t:TermM}(h:l[i]? =some t)(he:(t.key.toList==key.toList)=true)(hn:∀j t',j<i→l[j]? =some t'→(t'.key.toList==key.toList)=false):keyIx key l=i:=by
 obtain⟨hi,ht⟩:=List.getElem?_eq_some_iff.1 h;unfold keyIx;rw[List.findIdx_eq hi];refine⟨by rw[ht];exact he,fun j hj=>?_⟩
 have hjl:j<l.length:=by omega
 rw[hn j l[j] hj (List.getElem?_eq_getElem hjl)]
theorem keyIx_none {key:ByteArray}{l:List TermM}(hn:∀j t',j<l.length→l[j]? =some t'→(t'.key.toList==key.toList)=false):l[keyIx key l]? =none:=by
 have:keyIx key l=l.length:=by
  unfold keyIx;rw[List.findIdx_eq_length];intro x hx;obtain⟨j,hj,rfl⟩:=List.getElem_of_mem hx;rw[hn j _ hj (List.getElem?_eq_getElem hj)]
 rw[this,List.getElem?_eq_none (Nat.le_refl _)]
theorem termsT_cons (s0:Int)(n:Nat)(x:TokI)(l:List TokI)(out:List TermM)(s:St):(termsT s0 n (x::l) out).exec s=match out[keyIx (keyB x.1 x.2.1) out]? with
  |some t=>(termsT s0 n l (out.set (keyIx (keyB x.1 x.2.1) out) { t with cnt:=t.cnt+1 })).exec s
  |none=>(termsT s0 n l (out++[((lookT s0 n (keyB x.1 x.2.1)).exec s).1])).exec ((lookT s0 n (keyB x.1 x.2.1)).exec s).2:=by
 have e:termsT s0 n (x::l) out=match out[keyIx (keyB x.1 x.2.1) out]? with
  |some t=>termsT s0 n l (out.set (keyIx (keyB x.1 x.2.1) out) { t with cnt:=t.cnt+1 })
  |none=>(lookT s0 n (keyB x.1 x.2.1)).bind fun t=>termsT s0 n l (out++[t]):=rfl
 rw[e]
 cases out[keyIx (keyB x.1 x.2.1) out]? with
 |some t=>rfl
 |none=>exact Tree.exec_bind _ _ _
theorem lookT_exec (s0:Int)(n:Nat)(key:ByteArray)(s:St):(lookT s0 n key).exec s=if((findK s0 n key).exec s).1.1=0 then(⟨key,0,0,1⟩,((findK s0 n key).exec s).2)else(⟨key,((findK s0 n key).exec s).1.1,(((findK s0 n key).exec s).2.load ((findK s0 n key).exec s).1.1).1,1⟩,(((findK s0 n key).exec s).2.load ((findK s0 n key).exec s).1.1).2):=by
 unfold lookT;rw[Tree.exec_bind]
 split<;>rfl
set_option maxRecDepth 100000 in
set_option maxHeartbeats 4000000 in
theorem write_terms {w:World}{K:Nat→Prop}{r m c:Nat}{s:St}(h:RM w K r m c s)(s0:Int)(n:Nat)(toks:List TokI)(A:Option Addr)(cp:Nat)(hsl:SlAt w K 3 (.slice A toks.length cp) toks.length (toks.flatMap tokI))
  (hs:0≤s0∧s0≤65536) (hn:1≤n∧n≤65536) (ht:∀t∈toks,(0≤t.1∧t.1≤255)∧t.2.1.size≤1000) (hl:toks.length≤65536):
  Z 51 #[.pointer (some ⟨r,0,none⟩),I s0,I n,.slice A toks.length cp] w fun e w'=>
   ∃v,e= .returned v∧RM w' (fun b=>K b∨v.ownBlock=some b) r m c ((termsT s0 n toks []).exec s).2∧TermOwn w' K v ((termsT s0 n toks []).exec s).1∧Keeps K w w':=by
 have hfind:=fun(W:World) (K':Nat→Prop) (s':St) (hW:RM W K' r m c s') (t:ByteArray) (ht:t.size≤2000)=>dict_find hW s0 n t hs hn (by omega)
 generalize hres:(termsT s0 n toks []).exec s=res;have hlt:=h.lt;have hcp:=hsl.capOf;unfold maxLen at hcp;obtain⟨hcp0,hcp1⟩:=hcp;obtain⟨hs0,hs1⟩:=hs;obtain⟨hn0,hn1⟩:=hn;have hR0:RM w (fun b=>K b∨(Value.slice none 0 0).ownBlock=some b) r m c s:=h.mono (fun b hb=>hb.resolve_right (by intro e;cases e))
 have Hsl:=hid hsl;have Ht:=hid ht;have Hfind:=hid hfind;have Hlt:=hid hlt;have Hres:=hid hres;have HR0:=hid hR0;clear hsl ht hfind hlt hres hR0;clear h;refine calls_hide fun R' hR'=>?_
 go_enter Tryz.func51,Tryz.ntmps51
 go_wp2_with fail
 go_step3
 go_wp2_with fail
 go_step3
 go_wp2_with fail
 go_loopw[9,17] (fun ov iv wx=>∃(i:Nat) (s':St) (out:List TermM) (A':Option Addr) (cp':Nat),ov= .slice A' out.length cp'∧iv=I (i:Int)∧i≤toks.length∧out.length≤i∧Hid (∀t∈out,0≤t.cnt∧t.cnt≤(i:Nat))∧Hid ((termsT s0 n (toks.drop i) out).exec s'=res)∧
   Hid (RM wx (fun b=>K b∨(Value.slice A' out.length cp').ownBlock=some b) r m c s')∧Hid (TermOwn wx K (.slice A' out.length cp') out)∧Hid (Keeps K w wx)) (fun _ iv _=>toks.length-(intOf iv).toNat)
 case atStart=>exact⟨0,s,[],none,0,rfl,rfl,Nat.zero_le _,Nat.zero_le _,hid (fun t ht=>by cases ht),Hres,HR0,hid ⟨World.ownsRow_nil _ _ _ _,fun b hb=>by cases hb⟩,hid (Keeps.refl _ _)⟩
 case round=>
  obtain⟨i,s',out,A',cp',rfl,rfl,hi,hol,HC,HX,HR,HO,HK⟩:=hrel
  by_cases hlt:i<toks.length
  ·have hltI:(i:Int)<(toks.length:Int):=by omega
   obtain⟨⟨tf,tt,tp⟩,hx⟩:∃x,toks[i]? =some x:=⟨_,List.getElem?_eq_getElem hlt⟩;obtain⟨b0,o0,rfl,hkb,g1⟩:=SlAt.rec (f:=tokI) (fun _ _=>rfl) Hsl.out i _ hx;obtain⟨⟨tf0,tf1⟩,tts⟩:=Ht.out _ (List.mem_of_getElem? hx);dsimp only at tf0 tf1 tts;have hh0:=Hlt.out _ hkb;have zz110:=PLift.up @c557;exact c555
  ·obtain rfl:i=toks.length:=by omega
   have hltI:¬(toks.length:Int)<(toks.length:Int):=by omega
   have hfin:(out,s')=res:=by rw[←HX.out,List.drop_length];rfl
   clear HX HC;have Hfin:=hid hfin;clear hfin
   go_wp2_with fail
   exact hR'.out _ _ ⟨_,rfl,by rw[←Hfin.out];exact HR.out,by rw[←Hfin.out];exact HO.out,HK.out⟩
end Go.Proofs.YtogdknnkhkjmcaaGreatDoor
