/- Lemmas on the programs that the statement reaches. -/
import Derived.Test.YtogdknnkhkjmcaaGreatDoorKPlainV
import Derived.Test.YtogdknnkhkjmcaaGreatDoorKRef5
import Derived.Test.YtogdknnkhkjmcaaGreatDoorKPostA
import Derived.Test.YtogdknnkhkjmcaaGreatDoorKNeed
namespace Go.Proofs.YtogdknnkhkjmcaaGreatDoor
open Go.RowKit
set_option linter.all false
def allL:List UInt8→Bool→Bool→Nat→List Int→List (ByteArray×Nat)
 |_,_,_,_,[]=>[]
 |o,fu,so,p,r::l=>
  if isW r=false then(if so then(⟨o.toArray⟩,p)::allL [] false false (p+1) l else allL [] false false p l)
  else if fu||decide (16<o.length+(encB (foldM r)).length)then allL o true true p l else allL (o++encB (foldM r)) fu true p l
def allS (s:ByteArray):List (ByteArray×Nat):=allL [] false false 0 (runesS s++[32])
theorem allL_cons (o:List UInt8)(fu so:Bool)(p:Nat)(r:Int)(l:List Int):allL o fu so p (r::l)=if isW r=false then(if so then(⟨o.toArray⟩,p)::allL [] false false (p+1) l else allL [] false false p l)
  else if fu||decide (16<o.length+(encB (foldM r)).length)then allL o true true p l else allL (o++encB (foldM r)) fu true p l:=rfl
theorem Two.fresh {B:Nat}{w0 w:World}{E1 E2 T:TypeId}{s1 s2 n1 n2:Nat}{v1 v2:Value}{xs1 xs2:List Value}(h:Two B w0 w E1 s1 v1 n1 xs1 E2 s2 v2 n2 xs2)(hT:T=E2):Two B w0 (w.alloc (.cells #[] T)) E1 s1 v1 n1 xs1 E2 s2 (.slice (some ⟨w.heap.size,0,none⟩) 0 0) 0 []:=by
 have k:Keeps (· <w.heap.size) w (w.alloc (.cells #[] T)):=(Keeps.refl _ _).alloc (fun b hb=>hb) _;have h2:=h.calls k;refine⟨h2.o1,own_lit w B E2 T s2 0 [] hT (by simp) (Nat.zero_le _) h.le,fun y hy=>?_,h2.keeps,h2.le⟩
 intro e;have:=(ownB_lt h.o1 hy).2;simp only[Value.ownBlock,Option.some.injEq]at e
 omega
theorem fold_bnd {r:Int}(h:0≤r∧r≤1114111):0≤foldM r∧foldM r≤1114111:=by rw[foldM_ifs];omega
theorem conv_own {w:World}{B:Nat}{A:Option Addr}{cp:Nat}{bs:List UInt8}{s t e:TypeId}{P:Program}(hs:P.underlying s=some (.slice e))(he:P.underlying e=some (.int .u8))(hd:P.underlying t=some .string)
  (h:w.ownsRow B 5 1 (.slice A bs.length cp) bs.length (bs.map u8v)):(convert s t (.slice A bs.length cp)).run P w= .ok (.string ⟨bs.toArray⟩) w:=by
 cases bs with
 |nil=>
  rw[run_convert_bytes_string w s t e A _ cp hs he hd]
  cases A<;>rfl
 |cons b bs=>
  obtain⟨g,c,hg⟩:=ownB_pos h (by simp)
  injection hg with h1 h2 h3
  subst h1 h3;refine run_convert_bytes_back w s t e ⟨g,0,none⟩ cp (b::bs) hs he hd fun j hj=>?_;refine own_news h j _ ?_;rw[List.getElem?_map,List.getElem?_eq_getElem hj];rfl
set_option maxRecDepth 100000 in
set_option maxHeartbeats 8000000 in
theorem ref6_all (s:ByteArray)(hs:s.size≤1000000)(w:World):Z 106 #[.string s] w fun e w'=>∃v,e= .returned v∧w'.ownsRow w.heap.size 128 3 v (allS s).length ((allS s).flatMap tokC)∧Keeps (· <w.heap.size) w w':=by
 refine calls_hide fun R' hR'=>?_
 go_enter Tryz.func106,Tryz.ntmps106
 go_wp2_with fail
 refine(ref4_runes s (by omega) w).mono ?_
 rintro e w1 ⟨v,rfl,hN⟩;obtain⟨A,cp,rfl⟩:=ownB_form hN.1;have hrl:(runesS s).length≤1000000:=Nat.le_trans (runesF_len s s.size 0) hs;have hrb:∀r∈runesS s++[32],0≤r∧r≤1114111:=fun r hr=>by
  rcases List.mem_append.1 hr with h|h
  ·exact runesF_bound s s.size 0 r h
  ·have:r=32:=by simpa using h
   omega
 have hal:allS s=allL [] false false 0 (runesS s++[32]):=rfl;generalize allS s=al at*;generalize runesS s=rs at*;have Hrb:=hid hrb;have Hal:=hid hal;have HN:=hid hN;clear hrb hal hN;obtain⟨i0,hi,hz0,hz1,hz2⟩:=info_partsF Tryz.infoI32'
 go_wp2_with (at_builtin;go_must (refine wpList_append_own_at _ rfl _ _ 179 rfl (w.heap.size) 21 i0 (.int .i32 0) 1 4 Tryz.underlying179 hi hz0 hz1 hz2 rfl (by decide) (.slice A rs.length cp) rs.length (rs.map (Value.int .i32)) rfl (ownB_keepS HN.out.1 ((Keeps.refl _ _).alloc (fun b hb=>hb) _)) ⟨w1.heap.size,0,none⟩ 1 1 [.int .i32 32] rfl (by simp) (own_news (own_lit w1 0 _ _ 1 1 [.int .i32 32] rfl rfl (by decide) (Nat.zero_le _))) ?_ ?_ ?_ ?_ ?_))
 all_goals(try(first|with_reducible exact one1 _ _|with_reducible exact one2 _ _ _|with_reducible exact one4 _ _ _ _ _|with_reducible exact oneM _ _|exact rfl|exact fun _ _=>rfl|exact⟨rfl,rfl⟩|exact⟨rfl,rfl,rfl⟩|exact⟨rfl,rfl,rfl,rfl⟩|(unfold maxLen;omega)|omega|(simp;omega)|(simp;done)))
 (try clear hi)
 (try clear hz0)
 (try clear hz1)
 (try clear hz2)
 all_goals(try(have hle9:=HN.out.2.size;rw[World.size_alloc];omega))
 intro v' w2 hown hgr _ hf;have hL:=NewRow.push HN.out hown hgr;obtain⟨Al,cl,rfl⟩:=ownB_form hown;have hll:rs.length+1=(rs++[32]).length:=by simp
 rw[hll]at*;clear hown hgr hf HN;have hll2:(rs++[32]).length≤1000001:=by simp;omega
 generalize rs++[32]=ls at*;clear hll;have hS:=ownB_slAt hL.1;have hkw:=hL.2;have HS:=hid hS;have Hkw:=hid hkw;clear hS hkw;clear hL;have hT0:Two w2.heap.size w2 ((w2.alloc (.cells #[] 128)).alloc (.cells #[] 5)) 128 3 (.slice (some ⟨w2.heap.size,0,none⟩) 0 0) 0 [] 5 1 (.slice (some ⟨w2.heap.size+1,0,none⟩) 0 0) 0 []:=by
  refine⟨ownB_keepS (own_lit w2 w2.heap.size _ _ 3 0 [] rfl (by simp) (Nat.zero_le _) (Nat.le_refl _)) ((Keeps.refl _ _).alloc (fun b hb=>hb) _),?_,?_,((Keeps.refl _ _).alloc (fun b hb=>hb) _).alloc (fun b hb=>by simp;omega) _,by simp;omega⟩
  ·have:=own_lit (w2.alloc (.cells #[] 128)) w2.heap.size 5 5 1 0 [] rfl (by simp) (Nat.zero_le _) (by simp)
   simpa using this
  ·intro y h1 h2;simp only[Value.ownBlock,Option.some.injEq]at h1 h2
   omega
 have HT0:=hid hT0;clear hT0
 go_wp2_with fail
 go_loopw[4,5,6,7,18] (fun ov pv fv sv iv wr=>∃(i:Nat) (acc:List (ByteArray×Nat)) (o:List UInt8) (fu so:Bool) (A1 A2:Option Addr) (c1 c2:Nat),ov= .slice A1 acc.length c1∧pv= .slice A2 o.length c2∧fv= .bool fu∧sv= .bool so∧iv=I (i:Int)∧i≤ls.length∧acc.length≤i∧o.length≤16∧Hid (Two w2.heap.size w2 wr 128 3 (.slice A1 acc.length c1) acc.length (acc.flatMap tokC) 5 1 (.slice A2 o.length c2) o.length (o.map u8v))∧Hid (acc++allL o fu so acc.length (ls.drop i)=al)) (fun _ _ _ _ iv _=>ls.length-(intOf iv).toNat)
 case atStart=>exact⟨0,[],[],false,false,some ⟨w2.heap.size,0,none⟩,some ⟨w2.heap.size+1,0,none⟩,0,0,rfl,rfl,rfl,rfl,rfl,Nat.zero_le _,Nat.le_refl _,by decide,HT0,hid Hal.out.symm⟩
 case round=>
  clear HT0;obtain⟨i,acc,o,fu,so,A1,A2,c1,c2,rfl,rfl,rfl,rfl,rfl,hi,hai,ho,HT,HE⟩:=hrel
  by_cases hlt:i<ls.length
  ·have hltI:(i:Int)<(ls.length:Int):=by omega
   obtain⟨r,hr⟩:∃r,ls[i]? =some r:=⟨_,List.getElem?_eq_getElem hlt⟩;obtain⟨hr0,hr1⟩:=Hrb.out r (List.mem_of_getElem? hr);obtain⟨b,off,c9,hv,hb,hc⟩:=(HS.out.keep HT.out.keeps (fun b hb=>hb.2)).get i r hr;injection hv with hA _ h3
   subst hA h3;have hd:ls.drop i=r::ls.drop (i+1):=by
    exact c131
   have hex:=HE.out;rw[hd,allL_cons]at hex;have hwr:=HT.out.keeps.size;clear hd hr HE
   go_wp2_with fail
   refine(ref5_class r wr hr0 hr1).mono ?_;rintro e w3 ⟨rfl,rfl⟩
   by_cases hcl:classM r=0
   ·have hw:isW r=false:=by unfold isW;simp[hcl]
    rw[if_pos hw]at hex;have hcb:(classM r==0)=true:=by simp[hcl]
    clear hcl hw;generalize classM r=cr at*
    cases so with
    |true=>
     rw[if_pos rfl]at hex;have hcv:=conv_own (P:=Tryz.prog) Tryz.underlying186 Tryz.underlying5 Tryz.underlying9 HT.out.o2;generalize (⟨o.toArray⟩:ByteArray)=tx at*;have hex2:(acc++[(tx,acc.length)])++allL [] false false (acc++[(tx,acc.length)]).length (ls.drop (i+1))=al:=by rw[←hex];simp
     have Hex2:=hid hex2;clear hex2;clear hex;obtain⟨i0,hi,hz0,hz1,hz2⟩:=info_partsF Tryz.infoTok
     go_wp2_with (at_builtin;go_must (refine wpList_append_own_at _ rfl _ _ 117 rfl (w2.heap.size) 128 i0 (.agg #[.int .u8 0,.string ⟨#[]⟩,I 0]) 3 32 Tryz.underlying117 hi hz0 hz1 hz2 rfl (by decide) (.slice A1 acc.length c1) acc.length (acc.flatMap tokC) rfl (ownB_keepS HT.out.o1 ((Keeps.refl _ _).alloc (fun b hb=>hb) _)) ⟨wr.heap.size,0,none⟩ 1 1 [.int .u8 0,.string tx,I (acc.length:Int)] rfl (by simp) (own_newsS (own_lit wr 0 _ _ 3 1 [.int .u8 0,.string tx,I (acc.length:Int)] rfl rfl (by decide) (Nat.zero_le _))) ?_ ?_ ?_ ?_ ?_))
     all_goals(try(first|with_reducible exact one1 _ _|with_reducible exact one2 _ _ _|with_reducible exact one4 _ _ _ _ _|with_reducible exact oneM _ _|exact rfl|exact fun _ _=>rfl|exact⟨rfl,rfl⟩|exact⟨rfl,rfl,rfl⟩|exact⟨rfl,rfl,rfl,rfl⟩|(unfold maxLen;omega)|omega|(simp;omega)|(simp;done)))
     (try clear hi)
     (try clear hz0)
     (try clear hz1)
     (try clear hz2)
     all_goals(try(first|exact oneTok (tx,acc.length)|(simp only[maxLen];omega)))
     intro v' w7 hown hgr _ hf;have hT2:=(HT.out.calls ((Keeps.refl _ _).alloc (fun b hb=>hb) (.cells #[.int .u8 0,.string tx,I (acc.length:Int)] 128))).app hown hgr (by simpa using hf)
     obtain⟨A',cp',rfl⟩:=ownB_form hown;have hT3:=hT2.fresh (T:=5) rfl;have hln:acc.length+1=(acc++[(tx,acc.length)]).length:=by simp
     have hfm:acc.flatMap tokC++[.int .u8 0,.string tx,I (acc.length:Int)]=(acc++[(tx,acc.length)]).flatMap tokC:=by rw[List.flatMap_append];rfl
     rw[hln,hfm]at hT3;have hln2:(acc++[(tx,acc.length)]).length≤i+1:=by simp;omega
     rw[hln];generalize acc++[(tx,acc.length)]=acc2 at*;clear hown hgr hf hT2 HT hln hfm hcv;have HT3:=hid hT3;clear hT3
     go_wp2_with fail
     go_roundw
     case rel=>exact⟨i+1,acc2,[],false,false,A',some ⟨w7.heap.size,0,none⟩,cp',0,rfl,rfl,rfl,rfl,by go_num,by omega,hln2,by decide,HT3,Hex2⟩
     case measure=>exact msA
    |false=>
     rw[if_neg (by decide)]at hex
     have hT3:=HT.out.fresh (T:=5) rfl;have HT3:=hid hT3;have Hex:=hid hex;clear hT3 hex;clear HT
     go_wp2_with fail
     go_roundw
     case rel=>exact⟨i+1,acc,[],false,false,A1,some ⟨wr.heap.size,0,none⟩,c1,0,rfl,rfl,rfl,rfl,by go_num,by omega,by omega,by decide,HT3,Hex⟩
     case measure=>exact msA
   ·have hw:¬isW r=false:=by unfold isW;simp[hcl]
    rw[if_neg hw]at hex;have hcb:(classM r==0)=false:=by simpa using hcl
    clear hcl hw;generalize classM r=cr at*
    go_wp2_with fail
    refine(ref5_fold r wr hr0 hr1).mono ?_;rintro e w4 ⟨rfl,rfl⟩;have hfb:=fold_bnd ⟨hr0,hr1⟩;generalize foldM r=fr at*
    go_wp2_with fail
    refine(ref4_bytes fr (by omega) wr).mono ?_
    rintro e w5 ⟨v5,rfl,hNb⟩;have h5:=encB_pos fr;have h4:=encB_four fr;obtain⟨g,c5,rfl⟩:=ownB_pos hNb.1 h5;have hk5:=hNb.2;have hnews:=own_news hNb.1;have hT5:=HT.out.calls hk5;have hs5:=hk5.size;generalize encB fr=bs at*;clear HT hNb hc;have HT5:=hid hT5;have Hnews:=hid hnews;have Hex:=hid hex;clear hT5 hnews hex;clear hk5
    cases fu with
    |true=>
     have hex:=Hex.out;rw[if_pos (by simp)]at hex
     exact c98
    |false=>
     by_cases hbig:16<o.length+bs.length
     ·have hex:=Hex.out;rw[if_pos (by simp[hbig])]at hex
      have hbI:16<(o.length:Int)+(bs.length:Int):=by omega
      exact c98
     ·have hex:=Hex.out;rw[if_neg (by simp;omega)]at hex
      have hbI:¬16<(o.length:Int)+(bs.length:Int):=by omega
      have Hex2:=hid hex;clear hex;clear Hex;obtain⟨i0,hi,hz0,hz1,hz2⟩:=info_partsF Tryz.infoU8'
      go_wp2_with (at_builtin;go_must (refine wpList_append_own_at _ rfl _ _ 186 rfl (w2.heap.size) 5 i0 (.int .u8 0) 1 1 Tryz.underlying186 hi hz0 hz1 hz2 rfl (by decide) (.slice A2 o.length c2) o.length (o.map u8v) rfl HT5.out.o2 ⟨g,0,none⟩ bs.length c5 (bs.map u8v) rfl (by simp) Hnews.out ?_ ?_ ?_ ?_ ?_))
      all_goals(try(first|with_reducible exact one1 _ _|with_reducible exact one2 _ _ _|with_reducible exact one4 _ _ _ _ _|with_reducible exact oneM _ _|exact rfl|exact fun _ _=>rfl|exact⟨rfl,rfl⟩|exact⟨rfl,rfl,rfl⟩|exact⟨rfl,rfl,rfl,rfl⟩|(unfold maxLen;omega)|omega|(simp;omega)|(simp;done)))
      (try clear hi)
      (try clear hz0)
      (try clear hz1)
      (try clear hz2)
      all_goals(try(first|exact one8 _|(simp only[maxLen];omega)))
      intro v' w7 hown hgr _ hf;have hT7:=(HT5.out.swap.app hown hgr hf).swap;obtain⟨A',cp',rfl⟩:=ownB_form hown;have hln:o.length+bs.length=(o++bs).length:=by simp
      rw[←List.map_append,hln]at hT7;rw[hln];have hlo:(o++bs).length≤16:=by simp;omega
      generalize o++bs=o2 at*;clear hown hgr hf HT5 Hnews hln;have HT7:=hid hT7;clear hT7
      go_wp2_with fail
      go_roundw
      case rel=>exact⟨i+1,acc,o2,false,true,A1,A',c1,cp',rfl,rfl,rfl,rfl,by go_num,by omega,by omega,hlo,HT7,Hex2⟩
      case measure=>exact msA
  ·have hltI:¬(i:Int)<(ls.length:Int):=by omega
   have hex:=HE.out;rw[List.drop_eq_nil_of_le (by omega)]at hex
   have hex:acc=al:=by rw[←hex];show acc=acc++allL _ _ _ _ [];unfold allL;rw[List.append_nil]
   have hkr:=HT.out.keeps;have hle:=Hkw.out.size;have Hex:=hid hex;have Hkr:=hid hkr;clear hex hkr
   go_wp2_with fail
   exact hR'.out _ _ ⟨_,rfl,by rw[←Hex.out];exact own_back HT.out.o1 hle,Hkw.out.trans (Hkr.out.mono fun b hb=>by omega)⟩
def rowT (b d:Int):Tree RowM:= .load (b+4*d+0) fun x0=> .load (b+4*d+1) fun x1=> .load (b+4*d+2) fun x2=> .load (b+4*d+3) fun x3=> .ret ⟨x0,x1,x2,x3⟩
def RowM.vals (x:RowM):List Value:=[.int .u32 x.birth,.int .u32 x.id,.int .u32 x.len,.int .u32 x.tomb]
theorem rowT_exec {b d:Int}{s s0 s1 s2 s3:St}{x0 x1 x2 x3:Int}(e0:s.load (b+4*d+0)=(x0,s0))(e1:s0.load (b+4*d+1)=(x1,s1))(e2:s1.load (b+4*d+2)=(x2,s2))(e3:s2.load (b+4*d+3)=(x3,s3)):
  (rowT b d).exec s=(⟨x0,x1,x2,x3⟩,s3):=by
 have e:(rowT b d).exec s=(⟨(s.load (b+4*d+0)).1,((s.load (b+4*d+0)).2.load (b+4*d+1)).1,(((s.load (b+4*d+0)).2.load (b+4*d+1)).2.load (b+4*d+2)).1,((((s.load (b+4*d+0)).2.load (b+4*d+1)).2.load (b+4*d+2)).2.load (b+4*d+3)).1⟩,((((s.load (b+4*d+0)).2.load (b+4*d+1)).2.load (b+4*d+2)).2.load (b+4*d+3)).2):=rfl
 rw[e,e0,e1,e2,e3]
set_option maxHeartbeats 400000 in
theorem table_row {w:World}{K:Nat→Prop}{r m c:Nat}{s:St}(h:RM w K r m c s)(b d:Int)(hb:Small b)(hd:Small d):
  Z 46 #[.pointer (some ⟨r,0,none⟩),I b,I d] w fun e w'=>
   e= .returned (.agg ((rowT b d).exec s).1.vals.toArray)∧RM w' K r m c ((rowT b d).exec s).2∧Keeps K w w':=by
 obtain⟨b0,b1⟩:=hb;obtain⟨d0,d1⟩:=hd;have H:=hid (h.more (.cells #[J 0,J 0,J 0,J 0] 113));have HB:=hid (Blk.new w [J 0,J 0,J 0,J 0] 113);have K0:=hid ((Keeps.refl K w).alloc h.lt (.cells #[J 0,J 0,J 0,J 0] 113));have hpn:¬K w.heap.size:=fun e=>Nat.lt_irrefl _ (h.lt _ e);generalize hres:(rowT b d).exec s=res;have HRes:=hid hres;clear hres h;refine calls_hide fun R' hR'=>?_
 go_enter Tryz.func46,Tryz.ntmps46
 go_wp2_with fail
 generalize hw0:w.alloc (.cells #[J 0,J 0,J 0,J 0] 113)=w0 at*;generalize hp:w.heap.size=p at*;clear hw0 hp;have HPN:=hid hpn;clear hpn;refine(step_load H.out _).mono ?_;rintro e w1 ⟨rfl,h1,k1⟩;generalize hls:s.load (b+4*d)=ls at*;obtain⟨x0,s0⟩:=ls;have HL0:=hid hls;clear hls;simp only at h1;have hb1:=HB.out.keep k1 (Or.inr rfl);have H1:=hid h1;have HB1:=hid hb1
 have K1:=hid (K0.out.trans (k1.mono fun b hb=>Or.inl hb));clear h1 k1 hb1
 go_wp2_with fail
 refine(step_load H1.out _).mono ?_;rintro e w2 ⟨rfl,h2,k2⟩;generalize hls:s0.load (b+4*d+1)=ls at*;obtain⟨x1,s1⟩:=ls;have HL1:=hid hls;clear hls;simp only at h2;have hb2:=HB1.out.keep k2 (Or.inr rfl);have H2:=hid h2;have HB2:=hid hb2;have K2:=hid (K1.out.trans (k2.mono fun b hb=>Or.inl hb));clear h2 k2 hb2
 go_wp2_with fail
 refine(step_load H2.out _).mono ?_;rintro e w3 ⟨rfl,h3,k3⟩;generalize hls:s1.load (b+4*d+2)=ls at*;obtain⟨x2,s2⟩:=ls;have HL2:=hid hls;clear hls;simp only at h3;have hb3:=HB2.out.keep k3 (Or.inr rfl);have H3:=hid h3;have HB3:=hid hb3;have K3:=hid (K2.out.trans (k3.mono fun b hb=>Or.inl hb));clear h3 k3 hb3
 go_wp2_with fail
 refine(step_load H3.out _).mono ?_;rintro e w4 ⟨rfl,h4,k4⟩;generalize hls:s2.load (b+4*d+3)=ls at*;obtain⟨x3,s3⟩:=ls;have HL3:=hid hls;clear hls;simp only at h4;have hb4:=HB3.out.keep k4 (Or.inr rfl);have c0:=hb4.cell 0;have c1:=hb4.cell 1;have c2:=hb4.cell 2;have c3:=hb4.cell 3;have fz:=hb4.free;simp only[List.getElem?_cons_zero,List.getElem?_cons_succ]at c0 c1 c2 c3
 have H4:=hid h4;have HB4:=hid hb4;have K4:=hid (K3.out.trans (k4.mono fun b hb=>Or.inl hb));clear h4 k4 hb4
 go_wp2
 have hex:(rowT b d).exec s=(⟨x0,x1,x2,x3⟩,s3):=rowT_exec (by rw[Int.add_zero];exact HL0.out) HL1.out HL2.out HL3.out
 refine bodyPost_ret (v:= .agg #[J x0,J x1,J x2,J x3]) (by simp[results,Tryz.results46,go_sem,c0,c1,c2,c3]) rfl (hR'.out _ _ ⟨?_,?_,?_⟩)
 ·rw[←HRes.out,hex];rfl
 ·rw[←HRes.out,hex];exact((((H4.out.setK (a:=⟨p,0,none⟩) (Or.inr rfl) _).setK (a:=⟨p,1,none⟩) (Or.inr rfl) _).setK (a:=⟨p,2,none⟩) (Or.inr rfl) _).setK (a:=⟨p,3,none⟩) (Or.inr rfl) _).mono fun b hb=>Or.inl hb
 ·exact(((K4.out.setCell HPN.out _).setCell HPN.out _).setCell HPN.out _).setCell HPN.out _
structure SegM where
 addr:Int
 docs:Nat
 sealed:Bool
def SegM.cells (x:SegM):List Value:=[.int .i64 x.addr,.int .i64 x.docs,.bool x.sealed]
def SegM.base (x:SegM):Int:=if x.sealed then x.addr+2 else x.addr+1
structure WrM where
 segs:List SegM
 terms:Int
 ver:Int
 used:V6
def WrM.vals (x:WrM)(v:Value):List Value:=[v,.int .i64 x.terms,.int .u32 x.ver,.int .i64 x.used.a0,.int .i64 x.used.a1,.int .i64 x.used.a2,.int .i64 x.used.a3,.int .i64 x.used.a4,.int .i64 x.used.a5]
def zero6:V6:=⟨0,0,0,0,0,0⟩
def V6.sum (u v:V6):V6:=⟨u.a0+v.a0,u.a1+v.a1,u.a2+v.a2,u.a3+v.a3,u.a4+v.a4,u.a5+v.a5⟩
abbrev TokI:Type:=Int×ByteArray×Int
def tokI (t:TokI):List Value:=[.int .u8 t.1,.string t.2.1,.int .i64 t.2.2]
def keyB (f:Int)(t:ByteArray):ByteArray:=⟨#[UInt8.ofNat f.toNat]⟩++t
structure TermM where
 key:ByteArray
 recd:Int
 tl:Int
 cnt:Int
def TermM.cells (t:TermM):List Value:=[.string t.key,.int .i64 t.recd,.int .i64 t.tl,.int .i64 t.cnt]
def keyIx (key:ByteArray)(l:List TermM):Nat:=l.findIdx fun t=>t.key.toList==key.toList
def placeT (id:Int):List SegM→Nat→Tree (Int×Int×Bool)
 | [],_=> .ret (0,0,false)
 |x::l,i=>(findT x.base id x.docs 0).bind fun d=>if 0≤d then .ret ((i:Int),d,true)else placeT id l (i+1)
def findK (s:Int)(n:Nat)(key:ByteArray):Tree (Int×Int):=findD s n (homeD n (bsL key)) (packC (bsL key)) key.size n 0
def lookT (s:Int)(n:Nat)(key:ByteArray):Tree TermM:=(findK s n key).bind fun q=>if q.1=0 then .ret ⟨key,0,0,1⟩else .load q.1 fun t=> .ret ⟨key,q.1,t,1⟩
def termsT (s:Int)(n:Nat):List TokI→List TermM→Tree (List TermM)
 | [],out=> .ret out
 |x::l,out=>
  match out[keyIx (keyB x.1 x.2.1) out]? with
  |some t=>termsT s n l (out.set (keyIx (keyB x.1 x.2.1) out) { t with cnt:=t.cnt+1 })
  |none=>(lookT s n (keyB x.1 x.2.1)).bind fun t=>termsT s n l (out++[t])
def needsP (p:PlanM):List TermM→Int→V6→Int×V6
 | [],fr,more=>(fr,more)
 |t::l,fr,more=>
  if t.recd=0 then needsP p l (fr+1) ({ more with a4:=more.a4+(2+(((t.key.size+3)/4:Nat):Int)) }.sum (p.need t.tl t.cnt))
  else needsP p l fr (more.sum (p.need t.tl t.cnt))
def fitsP (p:PlanM)(u m:V6):Bool:=
 decide (0≤u.a0∧0≤m.a0∧u.a0≤p.size.a0∧m.a0≤p.size.a0-u.a0)&&decide (0≤u.a1∧0≤m.a1∧u.a1≤p.size.a1∧m.a1≤p.size.a1-u.a1)&&
 decide (0≤u.a2∧0≤m.a2∧u.a2≤p.size.a2∧m.a2≤p.size.a2-u.a2)&&decide (0≤u.a3∧0≤m.a3∧u.a3≤p.size.a3∧m.a3≤p.size.a3-u.a3)&&
 decide (0≤u.a4∧0≤m.a4∧u.a4≤p.size.a4∧m.a4≤p.size.a4-u.a4)&&decide (0≤u.a5∧0≤m.a5∧u.a5≤p.size.a5∧m.a5≤p.size.a5-u.a5)
def wordOf (d pos:Int):Int:=if d<0∨65535<d∨pos<0∨65535<pos then 0 else 65536*d+pos
def dictPutT (p:PlanM)(u:V6)(s0 sl:Int)(key:ByteArray):Tree (Int×V6):=
 if p.size.a4<u.a4+(2+(((key.size+3)/4:Nat):Int))then .ret (0,zero6)
 else(putD (p.base.a4+u.a4) (s0+sl) key.size (packC (bsL key))).bind fun _=> .ret (p.base.a4+u.a4,{ u with a4:=u.a4+(2+(((key.size+3)/4:Nat):Int)) })
def postPutT (p:PlanM)(u:V6)(t v:Int):Tree (Int×V6):=
 if(p.next t).2=false then .ret (0,zero6)
 else if(p.next t).1<0 then(putIn t v).bind fun _=> .ret (t+1,u)
 else if p.sK (p.next t).1.toNat<u.uK (p.next t).1.toNat+szK (p.next t).1.toNat then .ret (0,zero6)
 else(putNew t (p.bK (p.next t).1.toNat+u.uK (p.next t).1.toNat) v).bind fun _=> .ret (p.bK (p.next t).1.toNat+u.uK (p.next t).1.toNat+1,u.up (p.next t).1.toNat (szK (p.next t).1.toNat))
def recT (p:PlanM)(s:Int)(n:Nat)(t:TermM)(u:V6):Tree (Int×V6):=if t.recd=0 then(findK s n t.key).bind fun q=>dictPutT p u s q.2 t.key else .ret (t.recd,u)
def wordT (p:PlanM)(s:Int)(n:Nat)(d:Int)(x:TokI)(all:List TermM)(u:V6):Tree (List TermM×V6):=
 match all[keyIx (keyB x.1 x.2.1) all]? with
 |none=> .ret (all,u)
 |some t=>(recT p s n t u).bind fun q=>(postPutT p q.2 t.tl (wordOf d x.2.2)).bind fun y=> .store q.1 y.1 (.ret (all.set (keyIx (keyB x.1 x.2.1) all) ⟨t.key,q.1,y.1,t.cnt⟩,y.2))
def wordsT (p:PlanM)(s:Int)(n:Nat)(d:Int):List TokI→List TermM→V6→Tree (List TermM×V6)
 | [],all,u=> .ret (all,u)
 |x::l,all,u=>(wordT p s n d x all u).bind fun y=>wordsT p s n d l y.1 y.2
def moreDocs (l:List SegM):List SegM:=l.dropLast++(match l.getLast? with|none=>[]|some x=>[{ x with docs:=x.docs+1 }])
def addT (c:ConfM)(W:WrM)(live:SegM)(id:Int)(toks:List TokI):Tree (WrM×Int):=
 (placeT id W.segs 0).bind fun q=>if q.2.2=true then .ret (W,6)else
 .off fun o=>if o=true∨c.docs≤(live.docs:Int)then .ret (W,5)else
 (termsT (live.base+4*c.docs) c.plan.slots.toNat toks []).bind fun all=>
 .off fun o2=>if o2=true then .ret (W,0)else
 if c.terms-W.terms<(needsP c.plan all 0 zero6).1 then .ret (W,5)else
 if fitsP c.plan W.used (needsP c.plan all 0 zero6).2=false then .ret (W,3)else
 (wordsT c.plan (live.base+4*c.docs) c.plan.slots.toNat live.docs toks all W.used).bind fun y=>
 (layT live.base live.docs id toks.length (W.ver+1)).bind fun _=>
 .store 1 (W.ver+1) (.ret (⟨moreDocs W.segs,W.terms+(needsP c.plan all 0 zero6).1,W.ver+1,y.2⟩,0))
def delT (W:WrM)(id:Int):Tree (WrM×Int):=
 (placeT id W.segs 0).bind fun q=>if q.2.2=false then .ret (W,7)else
 match W.segs[q.1.toNat]? with
 |none=> .ret (W,7)
 |some x=>(rowT x.base q.2.1).bind fun row=> .off fun o=>if o=true∨row.tomb≠0 then .ret (W,7)else
  (killT x.base q.2.1 (W.ver+1)).bind fun _=> .store 1 (W.ver+1) (.ret ({ W with ver:=W.ver+1 },0))
set_option maxRecDepth 100000 in
set_option maxHeartbeats 1000000 in
theorem take_room (p:PlanM)(u:V6)(n:Int)(w:World)(h1:1≤n)(h0:0≤u.a5)(h2:u.a5+n≤p.size.a5)(h3:p.size.a5≤65536)(hb:0≤p.base.a5∧p.base.a5≤65536):
  Z 43 #[p.val,u.val,I 5,I n] w fun e w'=>
   e= .returned (.tuple #[I (p.base.a5+u.a5),V6.val { u with a5:=u.a5+n },I 0])∧Keeps (· <w.heap.size) w w':=by
 have zz152:=PLift.up @c728;exact c722
theorem bits_word (d pos:Int)(hd:0≤d∧d≤65535)(hp:0≤pos∧pos≤65535):bits .or .u32 (d*65536) pos=65536*d+pos:=by
 obtain⟨d,rfl⟩:=Int.eq_ofNat_of_zero_le hd.1;obtain⟨pos,rfl⟩:=Int.eq_ofNat_of_zero_le hp.1;have hx:pos<2^16:=by omega
 show IntKind.u32.wrap ((BitVec.ofInt 32 ((d:Int)*65536)|||BitVec.ofInt 32 (pos:Int)).toNat:Int)=_
 have e1:(BitVec.ofInt 32 (pos:Int)).toNat=pos:=by
  rw[BitVec.toNat_ofInt];omega
 have e2:(BitVec.ofInt 32 ((d:Int)*65536)).toNat=d*2^16:=by
  rw[BitVec.toNat_ofInt];omega
 rw[BitVec.toNat_or,e1,e2,←Nat.shiftLeft_eq,←Nat.shiftLeft_add_eq_or_of_lt hx d,Nat.shiftLeft_eq];rw[IntWalk.u32_in _ (by omega)]
 omega
theorem wordOf_in (d pos:Int):U32 (wordOf d pos):=by
 unfold wordOf U32
 split<;>omega
set_option maxHeartbeats 1000000 in
theorem pack_word (d pos:Int)(w:World):Z 82 #[I d,I pos] w fun e w'=>(∃x:Int,e= .returned (.tuple #[J (wordOf d pos),I x]))∧w'=w:=by
 by_cases hh:d<0∨65535<d∨pos<0∨65535<pos
 ·have hw:wordOf d pos=0:=by unfold wordOf;rw[if_pos hh]
  rw[hw];refine calls_hide fun R' hR'=>?_
  by_cases h1:d<0
  ·have g1:decide (d<0)=true:=decide_eq_true h1
   go_enter Tryz.func82,Tryz.ntmps82
   exact c80
  have g1:decide (d<0)=false:=decide_eq_false h1
  by_cases h2:65535<d
  ·have g2:decide (65535<d)=true:=decide_eq_true h2
   go_enter Tryz.func82,Tryz.ntmps82
   exact c80
  have g2:decide (65535<d)=false:=decide_eq_false h2
  by_cases h3:pos<0
  ·have g3:decide (pos<0)=true:=decide_eq_true h3
   go_enter Tryz.func82,Tryz.ntmps82
   exact c80
  have g3:decide (pos<0)=false:=decide_eq_false h3;have g4:decide (65535<pos)=true:=decide_eq_true (by omega)
  go_enter Tryz.func82,Tryz.ntmps82
  exact c80
 ·have hd:0≤d∧d≤65535:=by omega
  have zz43:=PLift.up @c282;exact c281
set_option maxHeartbeats 1000000 in
theorem ref_word (d pos:Int)(w:World):Z 94 #[I d,I pos] w fun e w'=>(∃x:Int,e= .returned (.tuple #[J (wordOf d pos),I x]))∧w'=w:=by
 by_cases hh:d<0∨65535<d∨pos<0∨65535<pos
 ·have hw:wordOf d pos=0:=by unfold wordOf;rw[if_pos hh]
  rw[hw];refine calls_hide fun R' hR'=>?_
  by_cases h1:d<0
  ·have g1:decide (d<0)=true:=decide_eq_true h1;exact c434
  have g1:decide (d<0)=false:=decide_eq_false h1
  by_cases h2:65535<d
  ·have g2:decide (65535<d)=true:=decide_eq_true h2;exact c434
  have g2:decide (65535<d)=false:=decide_eq_false h2
  by_cases h3:pos<0
  ·have g3:decide (pos<0)=true:=decide_eq_true h3;exact c434
  have g3:decide (pos<0)=false:=decide_eq_false h3;have g4:decide (65535<pos)=true:=decide_eq_true (by omega)
  exact c434
 ·have hd:0≤d∧d≤65535:=by omega
  have zz43:=PLift.up @c283;exact c281
structure St.InV (V:Int→Prop)(s:St):Prop where
 zero:V 0
 cells:∀x∈s.m.cells,V x
 log:∀x∈s.r.log,V x
namespace Tree
def Says {α:Type}(V:Int→Prop)(Q:α→Prop):Tree α→Prop
 |ret x=>Q x
 |load _ k=>∀v,V v→(k v).Says V Q
 |store _ v k=>V v∧k.Says V Q
 |off k=>∀b,(k b).Says V Q
theorem Says.mono {α:Type}{V:Int→Prop}{Q Q':α→Prop}:∀{t:Tree α},t.Says V Q→(∀x,Q x→Q' x)→t.Says V Q'
 |ret _,h,hq=>hq _ h
 |load _ _,h,hq=>fun v hv=>(h v hv).mono hq
 |store _ _ _,h,hq=>⟨h.1,h.2.mono hq⟩
 |off _,h,hq=>fun b=>(h b).mono hq
theorem Says.bind {α β:Type}{V:Int→Prop}{Q:β→Prop}{f:α→Tree β}:∀{t:Tree α},t.Says V (fun x=>(f x).Says V Q)→(t.bind f).Says V Q
 |ret _,h=>h
 |load _ _,h=>fun v hv=>Says.bind (h v hv)
 |store _ _ _,h=>⟨h.1,Says.bind h.2⟩
 |off _,h=>fun b=>Says.bind (h b)
end Tree
theorem St.InV.load {V:Int→Prop}{s:St}(h:s.InV V)(a:Int):V (s.load a).1∧(s.load a).2.InV V:=by
 have hat:V (s.m.at a):=by
  unfold MemS.at;rw[List.getD_eq_getElem?_getD]
  cases e:s.m.cells[a.toNat]? with
  |none=>exact h.zero
  |some x=>exact h.cells x (List.mem_of_getElem? e)
 have hlog:V (s.r.log.getD s.r.pos 0):=by
  rw[List.getD_eq_getElem?_getD]
  cases e:s.r.log[s.r.pos]? with
  |none=>exact h.zero
  |some x=>exact h.log x (List.mem_of_getElem? e)
 have htl:s.r.turn.log=s.r.log:=by unfold RunS.turn;(repeat' split)<;>rfl
 have hv:V (if s.m.inb a then s.m.at a else 0):=by split;exact hat;exact h.zero
 unfold St.load
 split
 ·refine⟨hv,h.zero,fun x hx=>h.cells x ?_,fun x hx=>?_⟩
  ·unfold MemS.load at hx;split at hx<;>exact hx
  ·unfold RunS.made at hx;dsimp only at hx
   split at hx
   ·rcases List.mem_append.1 hx with hx|hx
    ·exact h.log x (htl▸hx)
    ·rw[List.mem_singleton.1 hx];exact hat
   ·exact h.log x (htl▸hx)
 ·split
  ·exact⟨hlog,h.zero,h.cells,fun x hx=>h.log x (htl▸hx)⟩
  ·exact⟨h.zero,h.zero,h.cells,fun x hx=>h.log x (htl▸hx)⟩
theorem St.InV.store {V:Int→Prop}{s:St}(h:s.InV V)(a:Int){v:Int}(hv:V v):(s.store a v).InV V:=by
 have htl:s.r.turn.log=s.r.log:=by unfold RunS.turn;(repeat' split)<;>rfl
 unfold St.store
 split
 ·refine⟨h.zero,fun x hx=>?_,fun x hx=>?_⟩
  ·unfold MemS.store at hx;dsimp only at hx
   split at hx
   ·rcases List.mem_or_eq_of_mem_set hx with hx|rfl
    ·exact h.cells x hx
    ·exact hv
   ·exact h.cells x hx
  ·unfold RunS.made at hx;dsimp only at hx
   split at hx
   ·rcases List.mem_append.1 hx with hx|hx
    ·exact h.log x (htl▸hx)
    ·rw[List.mem_singleton.1 hx];exact h.zero
   ·exact h.log x (htl▸hx)
 ·exact⟨h.zero,h.cells,fun x hx=>h.log x (htl▸hx)⟩
theorem Tree.Says.exec {α:Type}{V:Int→Prop}{Q:α→Prop}{t:Tree α}:∀{s:St},t.Says V Q→s.InV V→Q (t.exec s).1∧(t.exec s).2.InV V:=by
 induction t with
 |ret x=>intro s h hs;exact⟨h,hs⟩
 |load a k ih=>intro s h hs;exact ih _ (h _ (hs.load a).1) (hs.load a).2
 |store a v k ih=>intro s h hs;exact ih h.2 (hs.store a h.1)
 |off k ih=>intro s h hs;exact ih _ (h _) hs
theorem St.InV.any (s:St):s.InV fun _=>True:=⟨trivial,fun _ _=>trivial,fun _ _=>trivial⟩
theorem RM.inV {w:World}{K:Nat→Prop}{r m c:Nat}{s:St}(h:RM w K r m c s):s.InV U32:=by
 obtain⟨g,h1,_⟩:=h.run;exact⟨⟨by decide,by decide⟩,h.mem.range,h1.range⟩
theorem cmpD_says {V:Int→Prop}(a:Int):∀(C:List Int) (k:Nat),(cmpD a C k).Says V fun _=>True
 | [],_=>trivial
 |c::C,k=>fun v _=>by
  show Tree.Says V _ (if v≠c then Tree.ret false else .off fun o=>if o=true then .ret false else cmpD a C (k+1))
  split
  ·trivial
  ·intro b;show Tree.Says V _ (if b=true then Tree.ret false else cmpD a C (k+1))
   split
   ·trivial
   ·exact cmpD_says a C (k+1)
theorem findD_says {V:Int→Prop}(hV:V 0)(s0:Int)(n h:Nat)(C:List Int)(len:Int)(hn:0<n):∀(f i:Nat),(findD s0 n h C len f i).Says V fun x:Int×Int=>V x.1∧-1≤x.2∧x.2<(n:Int)
 |0,i=>⟨hV,by show(-1:Int)≤-1;omega,by show(-1:Int)<n;omega⟩
 |f+1,i=>fun a ha o=>by
  have hm:=Nat.mod_lt (h+i) hn;have ih:=findD_says hV s0 n h C len hn f (i+1);show Tree.Says V _ (if o=true then Tree.ret (0,-1)else if a=0 then .ret (0,(((h+i)%n:Nat):Int))else
   .load (a+1) fun ln=>if ln≠len then findD s0 n h C len f (i+1)else(cmpD a C 0).bind fun ok=>if ok=true then .ret (a,(((h+i)%n:Nat):Int))else findD s0 n h C len f (i+1))
  split
  ·exact⟨hV,by show(-1:Int)≤-1;omega,by show(-1:Int)<n;omega⟩
  ·split
   ·exact⟨hV,by show(-1:Int)≤(((h+i)%n:Nat):Int);omega,by show(((h+i)%n:Nat):Int)<n;omega⟩
   ·intro ln _;dsimp only
    split
    ·exact ih
    ·refine Tree.Says.bind ((cmpD_says a C 0).mono fun ok _=>?_)
     split
     ·exact⟨ha,by show(-1:Int)≤(((h+i)%n:Nat):Int);omega,by show(((h+i)%n:Nat):Int)<n;omega⟩
     ·exact ih
theorem findK_range (s0:Int)(n:Nat)(key:ByteArray)(hn:0<n)(s:St): -1≤((findK s0 n key).exec s).1.2∧((findK s0 n key).exec s).1.2<n:=
 ((findD_says (V:=fun _=>True) trivial s0 n _ _ _ hn n 0).exec (St.InV.any s)).1.2
end Go.Proofs.YtogdknnkhkjmcaaGreatDoor
