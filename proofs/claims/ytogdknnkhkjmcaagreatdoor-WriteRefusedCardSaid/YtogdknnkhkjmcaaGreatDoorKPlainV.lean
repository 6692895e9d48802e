/- Lemmas on the programs that the statement reaches. -/
import Derived.Test.YtogdknnkhkjmcaaGreatDoorKLwD
namespace Go.Proofs.YtogdknnkhkjmcaaGreatDoor
open Go.RowKit
set_option linter.all false
set_option maxHeartbeats 400000 in
theorem dict_tail {w:World}{K:Nat→Prop}{r m c:Nat}{s:St}(h:RM w K r m c s)(a:Int):
  Z 76 #[.pointer (some ⟨r,0,none⟩),I a] w fun e w'=>e= .returned (I (s.load a).1)∧RM w' K r m c (s.load a).2∧Keeps K w w':=by
 have hu:=h.load_u32 a;have H:=hid h;clear h;refine calls_hide fun R' hR'=>?_
 go_enter Tryz.func76,Tryz.ntmps76
 go_wp2_with fail
 refine(step_load H.out a).mono ?_;rintro e w1 ⟨rfl,hr1,hk1⟩;obtain⟨u0,u1⟩:=hu;have Hr1:=hid hr1;have Hk1:=hid hk1;clear hr1 hk1;generalize hls:s.load a=ls at*;have Hls:=hid hls;clear hls
 go_wp2_with fail
 exact hR'.out _ _ ⟨rfl,Hr1.out,Hk1.out⟩
set_option maxHeartbeats 400000 in
theorem dict_setTail {w:World}{K:Nat→Prop}{r m c:Nat}{s:St}(h:RM w K r m c s)(a v:Int)(hv:U32 v):
  Z 84 #[.pointer (some ⟨r,0,none⟩),I a,I v] w fun e w'=>e= .returned (.tuple #[])∧RM w' K r m c (s.store a v)∧Keeps K w w':=by
 obtain⟨v0,v1⟩:=hv;have H:=hid h;clear h;refine calls_hide fun R' hR'=>?_
 go_enter Tryz.func84,Tryz.ntmps84
 go_wp2_with fail
 refine(step_store H.out a v ⟨v0,v1⟩).mono ?_;rintro e w1 ⟨rfl,hr1,hk1⟩;have Hr1:=hid hr1;have Hk1:=hid hk1;clear hr1 hk1
 go_wp2_with fail
 go_end0
 exact hR'.out _ _ ⟨rfl,Hr1.out,Hk1.out⟩
set_option maxRecDepth 100000 in
set_option maxHeartbeats 2000000 in
theorem dict_put_full {w:World}{K:Nat→Prop}{r m c:Nat}{s:St}(h:RM w K r m c s)(p:PlanM)(u:V6)(s0 sl:Int)(t:ByteArray)(ht:t.size≤1000)
  (h0:0≤u.a4) (hu:u.a4≤p.size.a4) (h2:p.size.a4<u.a4+(2+((t.size+3)/4:Nat))) (h3:p.size.a4≤65536):
  Z 81 #[.pointer (some ⟨r,0,none⟩),p.val,u.val,I s0,I sl,.string t] w fun e w'=>
   e= .returned (.tuple #[I 0,V6.val ⟨0,0,0,0,0,0⟩,I 3])∧RM w' K r m c s∧Keeps K w w':=by
 have H:=hid h;clear h;have hP:=hid (take_full p u (2+((t.size+3)/4:Nat)));have zz19:=PLift.up @c209;exact c208
set_option maxRecDepth 100000 in
set_option maxHeartbeats 4000000 in
theorem dict_put {w:World}{K:Nat→Prop}{r m c:Nat}{s:St}(h:RM w K r m c s)(p:PlanM)(u:V6)(s0 sl:Int)(t:ByteArray)(ht:t.size≤1000)
  (h0:0≤u.a4) (h2:u.a4+(2+((t.size+3)/4:Nat))≤p.size.a4) (h3:p.size.a4≤65536) (hpb:0≤p.base.a4∧p.base.a4≤65536) (hs0:0≤s0∧s0≤65536) (hsl: -1≤sl∧sl≤65536):
  Z 81 #[.pointer (some ⟨r,0,none⟩),p.val,u.val,I s0,I sl,.string t] w fun e w'=>
   e= .returned (.tuple #[I (p.base.a4+u.a4),V6.val { u with a4:=u.a4+(2+((t.size+3)/4:Nat)) },I 0])∧
    RM w' K r m c ((putD (p.base.a4+u.a4) (s0+sl) t.size (packC (bsL t))).exec s).2∧Keeps K w w':=by
 obtain⟨b0,b1⟩:=hpb;obtain⟨s00,s01⟩:=hs0;obtain⟨l00,l01⟩:=hsl;have hpl:(packC (bsL t)).length=(t.size+3)/4:=by rw[packC_len,bsL_len]
 have hpr:=packC_range (l:=bsL t) (fun x hx=>bsL_range t x hx);generalize hC:packC (bsL t)=C at*;generalize hres:(putD (p.base.a4+u.a4) (s0+sl) t.size C).exec s=res;have H:=hid h;have Hpl:=hid hpl;have Hpr:=hid hpr;have HC:=hid hC;have Hres:=hid hres;clear h hpl hpr hC hres;have zz19:=PLift.up @c210;exact c208
theorem decode_bound (s:ByteArray)(p:Nat):(Utf8.decode s p).1≤1114111:=by
 simp only[Utf8.decode]
 repeat' split
 all_goals try simp only[Bool.and_eq_true,Utf8.valid,Bool.or_eq_true,decide_eq_true_eq]at*
 all_goals try(show(65533:Nat)≤1114111;omega)
 all_goals omega
theorem runesF_bound (s:ByteArray):∀f p,∀r∈runesF s f p,0≤r∧r≤1114111
 |0,_,r,h=>by cases h
 |f+1,p,r,h=>by
  unfold runesF at h
  split at h
  ·rcases List.mem_cons.1 h with rfl|h
   ·have:=decode_bound s p;omega
   ·exact runesF_bound s f _ r h
  ·cases h
def isW (r:Int):Bool:= !(classM r==0)
def termP (ws:List Int):ByteArray:=fitS 16 (runesS (textS (ws.map foldM)))
def wordsL:Nat→Nat→List Int→List (ByteArray×Nat)
 |0,_,_=>[]
 |_+1,_,[]=>[]
 |f+1,p,r::rs=>if isW r then(if stopP (termP (r::rs.takeWhile isW))then wordsL f (p+1) ((rs.dropWhile isW).drop 1)else(termP (r::rs.takeWhile isW),p)::wordsL f (p+1) ((rs.dropWhile isW).drop 1))else wordsL f p rs
def wordsR (p:Nat)(rs:List Int):List (ByteArray×Nat):=wordsL rs.length p rs
theorem dw_len (rs:List Int):((rs.dropWhile isW).drop 1).length≤rs.length:=by
 have:(rs.dropWhile isW).length≤rs.length:=(List.dropWhile_sublist isW).length_le;rw[List.length_drop];omega
theorem wordsL_more:∀(f p:Nat) (rs:List Int),rs.length≤f→wordsL (f+1) p rs=wordsL f p rs
 |0,p,rs,h=>by
  have:rs=[]:=List.eq_nil_of_length_eq_zero (by omega)
  subst this;rfl
 |f+1,p,[],_=>rfl
 |f+1,p,r::rs,h=>by
  rw[List.length_cons]at h;have hd:=dw_len rs;unfold wordsL;rw[wordsL_more f (p+1) _ (by omega),wordsL_more f p rs (by omega)]
theorem wordsL_any (f p:Nat)(rs:List Int)(h:rs.length≤f):wordsL f p rs=wordsR p rs:=by
 obtain⟨g,rfl⟩:∃g,f=rs.length+g:=⟨f-rs.length,by omega⟩
 clear h
 induction g with
 |zero=>rfl
 |succ g ih=>rw[←Nat.add_assoc,wordsL_more _ _ _ (by omega)];exact ih
theorem wordsR_nil (p:Nat):wordsR p []=[]:=rfl
theorem wordsR_cons (p:Nat)(r:Int)(rs:List Int):wordsR p (r::rs)=if isW r then(if stopP (termP (r::rs.takeWhile isW))then wordsR (p+1) ((rs.dropWhile isW).drop 1)else(termP (r::rs.takeWhile isW),p)::wordsR (p+1) ((rs.dropWhile isW).drop 1))else wordsR p rs:=by
 have hd:=dw_len rs;show wordsL (rs.length+1) p (r::rs)=_;unfold wordsL;rw[wordsL_any _ (p+1) _ hd]
 rfl
structure WdAt (rs:List Int)(i j:Nat)(wd:List Int):Prop where
 eq:wd=((rs.drop i).take (j-i)).map foldM
 tw:(rs.drop i).takeWhile isW=(rs.drop i).take (j-i)++(rs.drop j).takeWhile isW
 dw:(rs.drop i).dropWhile isW=(rs.drop j).dropWhile isW
theorem WdAt.start (rs:List Int)(i:Nat):WdAt rs i i []:=⟨by simp,by simp,rfl⟩
theorem WdAt.step {rs:List Int}{i j:Nat}{wd:List Int}(h:WdAt rs i j wd){r:Int}(hr:rs[j]? =some r)(hw:isW r=true)(hij:i≤j):WdAt rs i (j+1) (wd++[foldM r]):=by
 have hd:rs.drop j=r::rs.drop (j+1):=by
  exact c137
 have ht:(rs.drop i).take (j+1-i)=(rs.drop i).take (j-i)++[r]:=by
  rw[show j+1-i=(j-i)+1 by omega,List.take_add_one,List.getElem?_drop,show i+(j-i)=j by omega,hr];rfl
 have htw:=h.tw;have hdw:=h.dw;rw[hd,List.takeWhile_cons_of_pos hw]at htw;rw[hd,List.dropWhile_cons_of_pos hw]at hdw;exact⟨by rw[ht,h.eq,List.map_append];rfl,by rw[ht,htw,List.append_assoc];rfl,hdw⟩
theorem WdAt.stop {rs:List Int}{i j:Nat}{wd:List Int}(h:WdAt rs i j wd)(hs:∀r,rs[j]? =some r→isW r=false):wd=((rs.drop i).takeWhile isW).map foldM∧((rs.drop i).dropWhile isW).drop 1=rs.drop (j+1):=by
 by_cases hj:j<rs.length
 ·have hr:=List.getElem?_eq_getElem hj;have hd:rs.drop j=rs[j]::rs.drop (j+1):=List.drop_eq_getElem_cons hj;have hw:=hs _ hr;have htw:=h.tw;have hdw:=h.dw;rw[hd,List.takeWhile_cons_of_neg (by rw[hw];decide),List.append_nil]at htw
  rw[hd,List.dropWhile_cons_of_neg (by rw[hw];decide)]at hdw
  exact⟨by rw[htw];exact h.eq,by rw[hdw];rfl⟩
 ·have hd:rs.drop j=[]:=List.drop_eq_nil_of_le (by omega)
  have htw:=h.tw;have hdw:=h.dw;rw[hd]at htw hdw;rw[List.takeWhile_nil,List.append_nil]at htw;exact⟨by rw[htw];exact h.eq,by rw[hdw,List.drop_eq_nil_of_le (by omega:rs.length≤j+1)];rfl⟩
theorem wordsR_word {p:Nat}{D rest:List Int}{r:Int}(hD:D=r::rest)(hw:isW r=true):wordsR p D=if stopP (termP (D.takeWhile isW))then wordsR (p+1) ((D.dropWhile isW).drop 1)else(termP (D.takeWhile isW),p)::wordsR (p+1) ((D.dropWhile isW).drop 1):=by
 subst hD;rw[wordsR_cons,if_pos hw,List.takeWhile_cons_of_pos hw,List.dropWhile_cons_of_pos hw]
def tokC (t:ByteArray×Nat):List Value:=[.int .u8 0,.string t.1,.int .i64 (t.2:Int)]
def TokRow (w0 w:World)(v:Value)(ts:List (ByteArray×Nat)):Prop:=w.ownsRow w0.heap.size 128 3 v ts.length (ts.flatMap tokC)∧Keeps (· <w0.heap.size) w0 w
theorem Tryz.infoTok:(Tryz.prog.info? 128).map (fun i=>(i.zero,i.size,i.bytes))=some (some (.agg #[.int .u8 0,.string ⟨#[]⟩,I 0]),3,32):=by kernel_rfl
theorem TokRow.calls {w0 w w':World}{v:Value}{ts:List (ByteArray×Nat)}(h:TokRow w0 w v ts)(k:Keeps (· <w.heap.size) w w'):TokRow w0 w' v ts:=
 ⟨ownB_keepS h.1 k,h.2.trans (k.mono fun b hb=>Nat.lt_of_lt_of_le hb h.2.size)⟩
theorem TokRow.push {w0 wr w':World}{T:TypeId}{v v':Value}{acc:List (ByteArray×Nat)}{x:ByteArray×Nat}(h:TokRow w0 wr v acc)(hown:w'.ownsRow w0.heap.size 128 3 v' (acc.length+1) (acc.flatMap tokC++tokC x))(hg:(wr.alloc (.cells (tokC x).toArray T)).grownBy w' v.ownBlock):TokRow w0 w' v' (acc++[x]):=by
 refine⟨by rw[List.flatMap_append,List.length_append];simpa using hown,?_⟩
 have hB:=h.2.size;exact keeps_grown (h.2.alloc (fun b hb=>by omega) _) (by simp;omega) (ownB_keepS h.1 ((Keeps.refl _ _).alloc (fun b hb=>hb) _)) hg
theorem own_back {w:World}{B B':Nat}{E:TypeId}{n sz:Nat}{v:Value}{xs:List Value}(h:w.ownsRow B E sz v n xs)(hB:B'≤B):w.ownsRow B' E sz v n xs:=by
 refine⟨h.1,?_⟩
 rcases h.2 with h1|⟨g,c,cur,h1,h2,h3⟩
 ·exact Or.inl h1
 ·exact Or.inr ⟨g,c,cur,h1,by omega,h3⟩
theorem TokRow.back {w0 w1 w:World}{v:Value}{ts:List (ByteArray×Nat)}(h:TokRow w1 w v ts)(k:Keeps (· <w0.heap.size) w0 w1):TokRow w0 w v ts:=by
 have:=k.size;exact⟨own_back h.1 this,k.trans (h.2.mono fun b hb=>by omega)⟩
theorem oneTok (x:ByteArray×Nat):∀u∈tokC x,u.oneCell'=true:=by
 intro u hu;simp only[tokC,List.mem_cons,List.not_mem_nil,or_false]at hu
 rcases hu with rfl|rfl|rfl<;>rfl
set_option maxRecDepth 100000 in
set_option maxHeartbeats 4000000 in
theorem token_words (s:ByteArray)(hs:s.size≤1000000)(w:World)(hT:FoldTab w):
  Z 73 #[.string s] w fun e w'=>∃v,e= .returned v∧TokRow w w' v (wordsR 0 (runesS s)):=by
 have HT:=hid hT;clear hT;refine calls_hide fun R' hR'=>?_
 go_enter Tryz.func73,Tryz.ntmps73
 go_wp2_with fail
 go_step3
 go_wp2_with fail
 refine(utf_runes s (by omega) w).mono ?_
 rintro e w1 ⟨v,rfl,hN⟩;have hrl:(runesS s).length≤s.size:=runesF_len s s.size 0;have hrb:∀r∈runesS s,0≤r∧r≤1114111:=runesF_bound s s.size 0;generalize runesS s=rs at*;obtain⟨A0,c0,rfl⟩:=ownB_form hN.1;have hS:=ownB_slAt hN.1;have hT1:=HT.out.keep hN.2;have hw1:=hN.2.size;have HS:=hid hS;have HT1:=hid hT1;have Hrb:=hid hrb;clear hS hT1 hrb;have HK0:=hid hN.2
 clear hN HT
 go_wp2_with fail
 go_step3
 go_wp2_with fail
 go_loopw[4,5,6] (fun ov pv iv wr=>∃(i place:Nat) (acc:List (ByteArray×Nat)) (A:Option Addr) (cp:Nat),ov= .slice A acc.length cp∧pv=I (place:Int)∧iv=I (i:Int)∧i≤rs.length+1∧place≤i∧acc.length≤i∧Hid (TokRow w1 wr (.slice A acc.length cp) acc)∧Hid (acc++wordsR place (rs.drop i)=wordsR 0 rs)) (fun _ _ iv _=>rs.length+2-(intOf iv).toNat)
 case atStart=>exact⟨0,0,[],none,0,rfl,rfl,rfl,Nat.zero_le _,Nat.le_refl _,Nat.le_refl _,hid ⟨⟨rfl,Or.inl ⟨rfl,rfl⟩⟩,Keeps.refl _ _⟩,hid rfl⟩
 case round=>
  obtain⟨i,place,acc,A,cp,rfl,rfl,rfl,hi,hpi,hai,HR,HE⟩:=hrel
  by_cases hlt:i<rs.length
  ·have hltI:(i:Int)<(rs.length:Int):=by omega
   obtain⟨r,hr⟩:∃r,rs[i]? =some r:=⟨_,List.getElem?_eq_getElem hlt⟩;have hrr:=Hrb.out r (List.mem_of_getElem? hr);obtain⟨b,off,c9,hv,hb,hc⟩:=(HS.out.keep HR.out.2 (fun b hb=>hb.2)).get i r hr;injection hv with hA h2 h3
   subst hA h3;have hd:rs.drop i=r::rs.drop (i+1):=by
    exact c137
   have hex:=HE.out;have hTr:=HT1.out.keep HR.out.2
   by_cases hcl:classM r=0
   ·have hw:isW r=false:=by unfold isW;simp[hcl]
    rw[hd,wordsR_cons,hw,if_neg (by simp)]at hex
    have hcb:(classM r==0)=true:=by simp[hcl]
    have zz57:=PLift.up @c336;exact c335
   ·have hw:isW r=true:=by unfold isW;simp[hcl]
    rw[wordsR_word hd hw]at hex;have hcb:(classM r==0)=false:=by simpa using hcl
    have zz57:=PLift.up @c337;exact c335
  ·have hex:=HE.out;rw[List.drop_eq_nil_of_le (by omega),wordsR_nil,List.append_nil]at hex
   have Hex:=hid hex;clear hex
   go_wp2_with fail
   exact hR'.out _ _ ⟨_,rfl,by have:=HR.out.back HK0.out;rw[←Hex.out];exact this⟩
theorem atP_dec (s:ByteArray)(i:Nat):(atP s i=(0,0)∧Utf8.decode s i=(65533,1))∨((atP s i).2≠0∧atP s i=(((Utf8.decode s i).1:Int),((Utf8.decode s i).2:Int))):=by
 obtain⟨b0,b1,b2,b3,e0,e1,e2,e3,hd⟩:=decN s i;unfold atP
 by_cases h1:byteI s i<128
 ·rw[if_pos h1];refine Or.inr ⟨by show(1:Int)≠0;decide,?_⟩
  rw[hd];unfold Lib.decodeN;rw[if_pos (by omega),e0];rfl
 rw[if_neg h1]
 by_cases h2:(Utf8.decode s i).2=1
 ·rw[if_pos h2];refine Or.inl ⟨rfl,?_⟩;rw[hd]at h2 ⊢;unfold Lib.decodeN at h2 ⊢;rw[if_neg (by omega)]at h2 ⊢
  repeat' split at h2
  all_goals first|(exfalso;simp at h2;done)|skip
  all_goals(repeat' split)
  all_goals first|rfl|(exfalso;omega)
 ·rw[if_neg h2];have:=decode_pos s i;exact Or.inr ⟨by show((Utf8.decode s i).2:Int)≠0;omega,rfl⟩
theorem decode_le (s:ByteArray)(i:Nat)(h:i<s.size):i+(Utf8.decode s i).2≤s.size:=by
 rw[Lib.decode_at];unfold Lib.decodeN
 repeat' split
 all_goals(simp only;omega)
theorem Tryz.infoI32':(Tryz.prog.info? 21).map (fun i=>(i.zero,i.size,i.bytes))=some (some (.int .i32 0),1,4):=by kernel_rfl
theorem Tryz.infoU8':(Tryz.prog.info? 5).map (fun i=>(i.zero,i.size,i.bytes))=some (some (.int .u8 0),1,1):=by kernel_rfl
set_option maxRecDepth 100000 in
set_option maxHeartbeats 4000000 in
theorem ref4_runes (s:ByteArray)(hs:s.size≤17592186044416)(w:World):Z 110 #[.string s] w fun e w'=>∃v,e= .returned v∧NewRow w w' 21 (Value.int .i32) v (runesS s):=by
 refine calls_hide fun R' hR'=>?_
 go_enter Tryz.func110,Tryz.ntmps110
 go_wp2_with fail
 go_loopw[3,4] (fun ov iv wr=>∃(pos:Nat) (acc:List Int) (A:Option Addr) (cp:Nat),ov= .slice A acc.length cp∧iv=I (pos:Int)∧pos≤s.size∧acc.length≤pos∧Hid (NewRow w wr 21 (Value.int .i32) (.slice A acc.length cp) acc)∧Hid (acc++runesF s s.size pos=runesS s)) (fun _ iv _=>s.size-(intOf iv).toNat)
 case atStart=>exact⟨0,[],some ⟨w.heap.size,0,none⟩,0,rfl,rfl,Nat.zero_le _,Nat.le_refl _,hid (NewRow.empty w _ _ (Value.int .i32) rfl),hid rfl⟩
 case round=>
  obtain⟨pos,acc,A,cp,rfl,rfl,hps,hap,HR,HE⟩:=hrel
  by_cases hp:pos<s.size
  ·have hpI:(pos:Int)<(s.size:Int):=by omega
   have hex:=HE.out;rw[runesF_next hp (by omega)]at hex
   have hle:=decode_le s pos hp;have hd1:=decode_pos s pos;have hbd:=decode_bound s pos;have hat:=atP_dec s pos;generalize hdd:Utf8.decode s pos=dd at*;obtain⟨dr,dk⟩:=dd;dsimp only at*;clear HE hdd
   go_wp2_with fail
   refine(ref4_at s hs pos hp wr).mono ?_;rintro e w2 ⟨rfl,hk⟩;have hsw:=HR.out.2.size;have hR2:NewRow w w2 21 (Value.int .i32) (.slice A acc.length cp) acc:=⟨ownB_keepS HR.out.1 hk,HR.out.2.trans (hk.mono fun b hb=>Nat.lt_of_lt_of_le hb hsw)⟩;have hs2:=hk.size;clear HR hk;have HR2:=hid hR2;have Hex:=hid hex;clear hR2 hex
   rcases hat with⟨h1,h2⟩|⟨h1,h2⟩
   ·rw[h1];injection h2 with h3 h4
    subst h3 h4;clear h1;obtain⟨i0,hi,hz0,hz1,hz2⟩:=info_partsF Tryz.infoI32'
    go_wp2_with (at_builtin;go_must (refine wpList_append_own_at _ rfl _ _ 179 rfl (w.heap.size) 21 i0 (.int .i32 0) 1 4 Tryz.underlying179 hi hz0 hz1 hz2 rfl (by decide) (.slice A acc.length cp) acc.length (acc.map (Value.int .i32)) rfl (ownB_keepS HR2.out.1 ((Keeps.refl _ _).alloc (fun b hb=>hb) _)) ⟨w2.heap.size,0,none⟩ 1 1 [.int .i32 65533] rfl (by simp) (own_news (own_lit w2 0 _ _ 1 1 [.int .i32 65533] rfl rfl (by decide) (Nat.zero_le _))) ?_ ?_ ?_ ?_ ?_))
    all_goals(try(first|with_reducible exact one1 _ _|with_reducible exact one2 _ _ _|with_reducible exact one4 _ _ _ _ _|with_reducible exact oneM _ _|exact rfl|exact fun _ _=>rfl|exact⟨rfl,rfl⟩|exact⟨rfl,rfl,rfl⟩|exact⟨rfl,rfl,rfl,rfl⟩|(unfold maxLen;omega)|omega|(simp;omega)|(simp;done)))
    (try clear hi)
    (try clear hz0)
    (try clear hz1)
    (try clear hz2)
    intro v' w6 hown hgr _ hf;have hN:=NewRow.push HR2.out hown hgr;obtain⟨A',cp',rfl⟩:=ownB_form hown;have hex2:(acc++[65533])++runesF s s.size (pos+1)=runesS s:=by rw[←Hex.out];simp
    clear hown hgr hf HR2;have HN:=hid hN;have Hex2:=hid hex2;clear hN hex2
    go_wp2_with fail
    go_roundw
    case rel=>exact⟨pos+1,acc++[65533],A',cp',by simp,by go_num,by omega,by simp;omega,by simpa using HN,Hex2⟩
    case measure=>exact msA
   ·rw[h2];rw[h2]at h1;dsimp only at h1;have hkb:((dk:Int)==0)=false:=by simpa using h1
    obtain⟨dx,hdx⟩:∃x:Int,x=(dr:Int):=⟨_,rfl⟩;rw[←hdx]at Hex ⊢;clear h1 h2 hdx;obtain⟨i0,hi,hz0,hz1,hz2⟩:=info_partsF Tryz.infoI32'
    go_wp2_with (at_builtin;go_must (refine wpList_append_own_at _ rfl _ _ 179 rfl (w.heap.size) 21 i0 (.int .i32 0) 1 4 Tryz.underlying179 hi hz0 hz1 hz2 rfl (by decide) (.slice A acc.length cp) acc.length (acc.map (Value.int .i32)) rfl (ownB_keepS HR2.out.1 ((Keeps.refl _ _).alloc (fun b hb=>hb) _)) ⟨w2.heap.size,0,none⟩ 1 1 [.int .i32 dx] rfl (by simp) (own_news (own_lit w2 0 _ _ 1 1 [.int .i32 dx] rfl rfl (by decide) (Nat.zero_le _))) ?_ ?_ ?_ ?_ ?_))
    all_goals(try(first|with_reducible exact one1 _ _|with_reducible exact one2 _ _ _|with_reducible exact one4 _ _ _ _ _|with_reducible exact oneM _ _|exact rfl|exact fun _ _=>rfl|exact⟨rfl,rfl⟩|exact⟨rfl,rfl,rfl⟩|exact⟨rfl,rfl,rfl,rfl⟩|(unfold maxLen;omega)|omega|(simp;omega)|(simp;done)))
    (try clear hi)
    (try clear hz0)
    (try clear hz1)
    (try clear hz2)
    intro v' w6 hown hgr _ hf;have hN:=NewRow.push HR2.out hown hgr;obtain⟨A',cp',rfl⟩:=ownB_form hown;have hex2:(acc++[dx])++runesF s s.size (pos+dk)=runesS s:=by rw[←Hex.out];simp
    clear hown hgr hf HR2;have HN:=hid hN;have Hex2:=hid hex2;clear hN hex2
    go_wp2_with fail
    go_roundw
    case rel=>exact⟨pos+dk,acc++[dx],A',cp',by simp,by go_num,by omega,by simp;omega,by simpa using HN,Hex2⟩
    case measure=>exact msA
  ·have hpI:¬(pos:Int)<(s.size:Int):=by omega
   have hex:=HE.out;rw[runesF_end hp,List.append_nil]at hex;have Hex:=hid hex;clear hex
   go_wp2_with fail
   exact hR'.out _ _ ⟨_,rfl,by rw[←Hex.out];exact HR.out⟩
theorem one8 (bs:List UInt8):∀u∈bs.map u8v,u.oneCell'=true:=by intro u hu;obtain⟨x,_,rfl⟩:=List.mem_map.1 hu;rfl
structure RowM where
 birth:Int
 id:Int
 len:Int
 tomb:Int
end Go.Proofs.YtogdknnkhkjmcaaGreatDoor
