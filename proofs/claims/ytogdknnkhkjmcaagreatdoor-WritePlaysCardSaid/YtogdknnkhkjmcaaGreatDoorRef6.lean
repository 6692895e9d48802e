/- The document's layer 6: All. -/
import Derived.Test.YtogdknnkhkjmcaaGreatDoorJRefX
import Derived.Test.YtogdknnkhkjmcaaGreatDoorRef5
namespace Go.Proofs.YtogdknnkhkjmcaaGreatDoor
open Go.RowKit
set_option linter.all false
def allL:List UInt8→Bool→Bool→Nat→List Int→List (ByteArray×Nat)
 |_,_,_,_,[]=>[]
 |o,fu,so,p,r::l=>
  if isW r=false then(if so then(⟨o.toArray⟩,p)::allL [] false false (p+1) l else allL [] false false p l)
  else if fu||decide (16<o.length+(encB (foldM r)).length)then allL o true true p l else allL (o++encB (foldM r)) fu true p l
def allS (s:ByteArray):List (ByteArray×Nat):=allL [] false false 0 (runesS s++[32])
theorem allL_cons (o:List UInt8)(fu so:Bool)(p:Nat)(r:Int)(l:List Int):allL o fu so p (r::l)=if isW r=false then(if so then(⟨o.toArray⟩,p)::allL [] false false (p+1) l else allL [] false false p l)
  else if fu||decide (16<o.length+(encB (foldM r)).length)then allL o true true p l else allL (o++encB (foldM r)) fu true p l:=rfl
theorem Two.fresh {B:Nat}{w0 w:World}{E1 E2 T:TypeId}{s1 s2 n1 n2:Nat}{v1 v2:Value}{xs1 xs2:List Value}(h:Two B w0 w E1 s1 v1 n1 xs1 E2 s2 v2 n2 xs2)(hT:T=E2):Two B w0 (w.alloc (.cells #[] T)) E1 s1 v1 n1 xs1 E2 s2 (.slice (some ⟨w.heap.size,0,none⟩) 0 0) 0 []:=by
 have k:Keeps (· <w.heap.size) w (w.alloc (.cells #[] T)):=(Keeps.refl _ _).alloc (fun b hb=>hb) _;have h2:=h.calls k;refine⟨h2.o1,own_lit w B E2 T s2 0 [] hT (by simp) (Nat.zero_le _) h.le,fun y hy=>?_,h2.keeps,h2.le⟩
 intro e;have:=(ownB_lt h.o1 hy).2;simp only[Value.ownBlock,Option.some.injEq]at e
 omega
theorem fold_bnd {r:Int}(h:0≤r∧r≤1114111):0≤foldM r∧foldM r≤1114111:=by rw[foldM_ifs];omega
theorem conv_own {w:World}{B:Nat}{A:Option Addr}{cp:Nat}{bs:List UInt8}{s t e:TypeId}{P:Program}(hs:P.underlying s=some (.slice e))(he:P.underlying e=some (.int .u8))(hd:P.underlying t=some .string)
  (h:w.ownsRow B 5 1 (.slice A bs.length cp) bs.length (bs.map u8v)):(convert s t (.slice A bs.length cp)).run P w= .ok (.string ⟨bs.toArray⟩) w:=by
 cases bs with
 |nil=>
  rw[run_convert_bytes_string w s t e A _ cp hs he hd]
  cases A<;>rfl
 |cons b bs=>
  obtain⟨g,c,hg⟩:=ownB_pos h (by simp)
  injection hg with h1 h2 h3
  subst h1 h3;refine run_convert_bytes_back w s t e ⟨g,0,none⟩ cp (b::bs) hs he hd fun j hj=>?_;refine own_news h j _ ?_;rw[List.getElem?_map,List.getElem?_eq_getElem hj];rfl
set_option maxRecDepth 100000 in
set_option maxHeartbeats 8000000 in
theorem ref6_all (s:ByteArray)(hs:s.size≤1000000)(w:World):Calls Tryz.prog 106 #[.string s] w fun e w'=>∃v,e= .returned v∧w'.ownsRow w.heap.size 128 3 v (allS s).length ((allS s).flatMap tokC)∧Keeps (· <w.heap.size) w w':=by
 refine calls_hide fun R' hR'=>?_
 go_enter Tryz.func106,Tryz.ntmps106
 go_wp2_with fail
 refine(ref4_runes s (by omega) w).mono ?_
 rintro e w1 ⟨v,rfl,hN⟩;obtain⟨A,cp,rfl⟩:=ownB_form hN.1;have hrl:(runesS s).length≤1000000:=Nat.le_trans (runesF_len s s.size 0) hs;have hrb:∀r∈runesS s++[32],0≤r∧r≤1114111:=fun r hr=>by
  rcases List.mem_append.1 hr with h|h
  ·exact runesF_bound s s.size 0 r h
  ·have:r=32:=by simpa using h
   omega
 have hal:allS s=allL [] false false 0 (runesS s++[32]):=rfl;generalize allS s=al at*;generalize runesS s=rs at*;have Hrb:=hid hrb;have Hal:=hid hal;have HN:=hid hN;clear hrb hal hN;obtain⟨i0,hi,hz0,hz1,hz2⟩:=info_partsF Tryz.infoI32'
 go_wp2_with (at_builtin;go_must (refine wpList_append_own_at _ rfl _ _ 179 rfl (w.heap.size) 21 i0 (.int .i32 0) 1 4 Tryz.underlying179 hi hz0 hz1 hz2 rfl (by decide) (.slice A rs.length cp) rs.length (rs.map (Value.int .i32)) rfl (ownB_keepS HN.out.1 ((Keeps.refl _ _).alloc (fun b hb=>hb) _)) ⟨w1.heap.size,0,none⟩ 1 1 [.int .i32 32] rfl (by simp) (own_news (own_lit w1 0 _ _ 1 1 [.int .i32 32] rfl rfl (by decide) (Nat.zero_le _))) ?_ ?_ ?_ ?_ ?_))
 all_goals(try(first|with_reducible exact one1 _ _|with_reducible exact one2 _ _ _|with_reducible exact one4 _ _ _ _ _|with_reducible exact oneM _ _|exact rfl|exact fun _ _=>rfl|exact⟨rfl,rfl⟩|exact⟨rfl,rfl,rfl⟩|exact⟨rfl,rfl,rfl,rfl⟩|(unfold maxLen;omega)|omega|(simp;omega)|(simp;done)))
 (try clear hi)
 (try clear hz0)
 (try clear hz1)
 (try clear hz2)
 all_goals(try(have hle9:=HN.out.2.size;rw[World.size_alloc];omega))
 intro v' w2 hown hgr _ hf;have hL:=NewRow.push HN.out hown hgr;obtain⟨Al,cl,rfl⟩:=ownB_form hown;have hll:rs.length+1=(rs++[32]).length:=by simp
 rw[hll]at*;clear hown hgr hf HN;have hll2:(rs++[32]).length≤1000001:=by simp;omega
 generalize rs++[32]=ls at*;clear hll;have hS:=ownB_slAt hL.1;have hkw:=hL.2;have HS:=hid hS;have Hkw:=hid hkw;clear hS hkw;clear hL;have hT0:Two w2.heap.size w2 ((w2.alloc (.cells #[] 128)).alloc (.cells #[] 5)) 128 3 (.slice (some ⟨w2.heap.size,0,none⟩) 0 0) 0 [] 5 1 (.slice (some ⟨w2.heap.size+1,0,none⟩) 0 0) 0 []:=by
  refine⟨ownB_keepS (own_lit w2 w2.heap.size _ _ 3 0 [] rfl (by simp) (Nat.zero_le _) (Nat.le_refl _)) ((Keeps.refl _ _).alloc (fun b hb=>hb) _),?_,?_,((Keeps.refl _ _).alloc (fun b hb=>hb) _).alloc (fun b hb=>by simp;omega) _,by simp;omega⟩
  ·have:=own_lit (w2.alloc (.cells #[] 128)) w2.heap.size 5 5 1 0 [] rfl (by simp) (Nat.zero_le _) (by simp)
   simpa using this
  ·intro y h1 h2;simp only[Value.ownBlock,Option.some.injEq]at h1 h2
   omega
 have HT0:=hid hT0;clear hT0
 go_wp2_with fail
 go_loopw[4,5,6,7,18] (fun ov pv fv sv iv wr=>∃(i:Nat) (acc:List (ByteArray×Nat)) (o:List UInt8) (fu so:Bool) (A1 A2:Option Addr) (c1 c2:Nat),ov= .slice A1 acc.length c1∧pv= .slice A2 o.length c2∧fv= .bool fu∧sv= .bool so∧iv=I (i:Int)∧i≤ls.length∧acc.length≤i∧o.length≤16∧Hid (Two w2.heap.size w2 wr 128 3 (.slice A1 acc.length c1) acc.length (acc.flatMap tokC) 5 1 (.slice A2 o.length c2) o.length (o.map u8v))∧Hid (acc++allL o fu so acc.length (ls.drop i)=al)) (fun _ _ _ _ iv _=>ls.length-(intOf iv).toNat)
 case atStart=>exact⟨0,[],[],false,false,some ⟨w2.heap.size,0,none⟩,some ⟨w2.heap.size+1,0,none⟩,0,0,rfl,rfl,rfl,rfl,rfl,Nat.zero_le _,Nat.le_refl _,by decide,HT0,hid Hal.out.symm⟩
 case round=>
  clear HT0;obtain⟨i,acc,o,fu,so,A1,A2,c1,c2,rfl,rfl,rfl,rfl,rfl,hi,hai,ho,HT,HE⟩:=hrel
  by_cases hlt:i<ls.length
  ·have hltI:(i:Int)<(ls.length:Int):=by omega
   obtain⟨r,hr⟩:∃r,ls[i]? =some r:=⟨_,List.getElem?_eq_getElem hlt⟩;obtain⟨hr0,hr1⟩:=Hrb.out r (List.mem_of_getElem? hr);obtain⟨b,off,c9,hv,hb,hc⟩:=(HS.out.keep HT.out.keeps (fun b hb=>hb.2)).get i r hr;injection hv with hA _ h3
   subst hA h3;have hd:ls.drop i=r::ls.drop (i+1):=by
    exact c137
   have hex:=HE.out;rw[hd,allL_cons]at hex;have hwr:=HT.out.keeps.size;clear hd hr HE
   go_wp2_with fail
   refine(ref5_class r wr hr0 hr1).mono ?_;rintro e w3 ⟨rfl,rfl⟩
   by_cases hcl:classM r=0
   ·have hw:isW r=false:=by unfold isW;simp[hcl]
    rw[if_pos hw]at hex;have hcb:(classM r==0)=true:=by simp[hcl]
    clear hcl hw;generalize classM r=cr at*
    cases so with
    |true=>
     rw[if_pos rfl]at hex;have hcv:=conv_own (P:=Tryz.prog) Tryz.underlying186 Tryz.underlying5 Tryz.underlying9 HT.out.o2;generalize (⟨o.toArray⟩:ByteArray)=tx at*;have hex2:(acc++[(tx,acc.length)])++allL [] false false (acc++[(tx,acc.length)]).length (ls.drop (i+1))=al:=by rw[←hex];simp
     have Hex2:=hid hex2;clear hex2;clear hex;obtain⟨i0,hi,hz0,hz1,hz2⟩:=info_partsF Tryz.infoTok
     go_wp2_with (at_builtin;go_must (refine wpList_append_own_at _ rfl _ _ 117 rfl (w2.heap.size) 128 i0 (.agg #[.int .u8 0,.string ⟨#[]⟩,I 0]) 3 32 Tryz.underlying117 hi hz0 hz1 hz2 rfl (by decide) (.slice A1 acc.length c1) acc.length (acc.flatMap tokC) rfl (ownB_keepS HT.out.o1 ((Keeps.refl _ _).alloc (fun b hb=>hb) _)) ⟨wr.heap.size,0,none⟩ 1 1 [.int .u8 0,.string tx,I (acc.length:Int)] rfl (by simp) (own_newsS (own_lit wr 0 _ _ 3 1 [.int .u8 0,.string tx,I (acc.length:Int)] rfl rfl (by decide) (Nat.zero_le _))) ?_ ?_ ?_ ?_ ?_))
     all_goals(try(first|with_reducible exact one1 _ _|with_reducible exact one2 _ _ _|with_reducible exact one4 _ _ _ _ _|with_reducible exact oneM _ _|exact rfl|exact fun _ _=>rfl|exact⟨rfl,rfl⟩|exact⟨rfl,rfl,rfl⟩|exact⟨rfl,rfl,rfl,rfl⟩|(unfold maxLen;omega)|omega|(simp;omega)|(simp;done)))
     (try clear hi)
     (try clear hz0)
     (try clear hz1)
     (try clear hz2)
     all_goals(try(first|exact oneTok (tx,acc.length)|(simp only[maxLen];omega)))
     intro v' w7 hown hgr _ hf;have hT2:=(HT.out.calls ((Keeps.refl _ _).alloc (fun b hb=>hb) (.cells #[.int .u8 0,.string tx,I (acc.length:Int)] 128))).app hown hgr (by simpa using hf)
     obtain⟨A',cp',rfl⟩:=ownB_form hown;have hT3:=hT2.fresh (T:=5) rfl;have hln:acc.length+1=(acc++[(tx,acc.length)]).length:=by simp
     have hfm:acc.flatMap tokC++[.int .u8 0,.string tx,I (acc.length:Int)]=(acc++[(tx,acc.length)]).flatMap tokC:=by rw[List.flatMap_append];rfl
     rw[hln,hfm]at hT3;have hln2:(acc++[(tx,acc.length)]).length≤i+1:=by simp;omega
     rw[hln];generalize acc++[(tx,acc.length)]=acc2 at*;clear hown hgr hf hT2 HT hln hfm hcv;have HT3:=hid hT3;clear hT3
     go_wp2_with fail
     go_roundw
     case rel=>exact⟨i+1,acc2,[],false,false,A',some ⟨w7.heap.size,0,none⟩,cp',0,rfl,rfl,rfl,rfl,by go_num,by omega,hln2,by decide,HT3,Hex2⟩
     case measure=>exact msA
    |false=>
     rw[if_neg (by decide)]at hex
     have hT3:=HT.out.fresh (T:=5) rfl;have HT3:=hid hT3;have Hex:=hid hex;clear hT3 hex;clear HT
     go_wp2_with fail
     go_roundw
     case rel=>exact⟨i+1,acc,[],false,false,A1,some ⟨wr.heap.size,0,none⟩,c1,0,rfl,rfl,rfl,rfl,by go_num,by omega,by omega,by decide,HT3,Hex⟩
     case measure=>exact msA
   ·have hw:¬isW r=false:=by unfold isW;simp[hcl]
    rw[if_neg hw]at hex;have hcb:(classM r==0)=false:=by simpa using hcl
    clear hcl hw;generalize classM r=cr at*
    go_wp2_with fail
    refine(ref5_fold r wr hr0 hr1).mono ?_;rintro e w4 ⟨rfl,rfl⟩;have hfb:=fold_bnd ⟨hr0,hr1⟩;generalize foldM r=fr at*
    go_wp2_with fail
    refine(ref4_bytes fr (by omega) wr).mono ?_
    rintro e w5 ⟨v5,rfl,hNb⟩;have h5:=encB_pos fr;have h4:=encB_four fr;obtain⟨g,c5,rfl⟩:=ownB_pos hNb.1 h5;have hk5:=hNb.2;have hnews:=own_news hNb.1;have hT5:=HT.out.calls hk5;have hs5:=hk5.size;generalize encB fr=bs at*;clear HT hNb hc;have HT5:=hid hT5;have Hnews:=hid hnews;have Hex:=hid hex;clear hT5 hnews hex;clear hk5
    cases fu with
    |true=>
     have hex:=Hex.out;rw[if_pos (by simp)]at hex
     exact c103
    |false=>
     by_cases hbig:16<o.length+bs.length
     ·have hex:=Hex.out;rw[if_pos (by simp[hbig])]at hex
      have hbI:16<(o.length:Int)+(bs.length:Int):=by omega
      exact c103
     ·have hex:=Hex.out;rw[if_neg (by simp;omega)]at hex
      have hbI:¬16<(o.length:Int)+(bs.length:Int):=by omega
      have Hex2:=hid hex;clear hex;clear Hex;obtain⟨i0,hi,hz0,hz1,hz2⟩:=info_partsF Tryz.infoU8'
      go_wp2_with (at_builtin;go_must (refine wpList_append_own_at _ rfl _ _ 186 rfl (w2.heap.size) 5 i0 (.int .u8 0) 1 1 Tryz.underlying186 hi hz0 hz1 hz2 rfl (by decide) (.slice A2 o.length c2) o.length (o.map u8v) rfl HT5.out.o2 ⟨g,0,none⟩ bs.length c5 (bs.map u8v) rfl (by simp) Hnews.out ?_ ?_ ?_ ?_ ?_))
      all_goals(try(first|with_reducible exact one1 _ _|with_reducible exact one2 _ _ _|with_reducible exact one4 _ _ _ _ _|with_reducible exact oneM _ _|exact rfl|exact fun _ _=>rfl|exact⟨rfl,rfl⟩|exact⟨rfl,rfl,rfl⟩|exact⟨rfl,rfl,rfl,rfl⟩|(unfold maxLen;omega)|omega|(simp;omega)|(simp;done)))
      (try clear hi)
      (try clear hz0)
      (try clear hz1)
      (try clear hz2)
      all_goals(try(first|exact one8 _|(simp only[maxLen];omega)))
      intro v' w7 hown hgr _ hf;have hT7:=(HT5.out.swap.app hown hgr hf).swap;obtain⟨A',cp',rfl⟩:=ownB_form hown;have hln:o.length+bs.length=(o++bs).length:=by simp
      rw[←List.map_append,hln]at hT7;rw[hln];have hlo:(o++bs).length≤16:=by simp;omega
      generalize o++bs=o2 at*;clear hown hgr hf HT5 Hnews hln;have HT7:=hid hT7;clear hT7
      go_wp2_with fail
      go_roundw
      case rel=>exact⟨i+1,acc,o2,false,true,A1,A',c1,cp',rfl,rfl,rfl,rfl,by go_num,by omega,by omega,hlo,HT7,Hex2⟩
      case measure=>exact msA
  ·have hltI:¬(i:Int)<(ls.length:Int):=by omega
   have hex:=HE.out;rw[List.drop_eq_nil_of_le (by omega)]at hex
   have hex:acc=al:=by rw[←hex];show acc=acc++allL _ _ _ _ [];unfold allL;rw[List.append_nil]
   have hkr:=HT.out.keeps;have hle:=Hkw.out.size;have Hex:=hid hex;have Hkr:=hid hkr;clear hex hkr
   go_wp2_with fail
   exact hR'.out _ _ ⟨_,rfl,by rw[←Hex.out];exact own_back HT.out.o1 hle,Hkw.out.trans (Hkr.out.mono fun b hb=>by omega)⟩
end Go.Proofs.YtogdknnkhkjmcaaGreatDoor
