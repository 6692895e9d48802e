/- Layer 6 (token): contract of Words. -/
import Derived.Test.YtogdknnkhkjmcaaGreatDoorJFoldB
namespace Go.Proofs.YtogdknnkhkjmcaaGreatDoor
open Go.RowKit
set_option linter.all false
theorem decode_bound (s:ByteArray)(p:Nat):(Utf8.decode s p).1≤1114111:=by
 simp only[Utf8.decode]
 repeat' split
 all_goals try simp only[Bool.and_eq_true,Utf8.valid,Bool.or_eq_true,decide_eq_true_eq]at*
 all_goals try(show(65533:Nat)≤1114111;omega)
 all_goals omega
theorem runesF_bound (s:ByteArray):∀f p,∀r∈runesF s f p,0≤r∧r≤1114111
 |0,_,r,h=>by cases h
 |f+1,p,r,h=>by
  unfold runesF at h
  split at h
  ·rcases List.mem_cons.1 h with rfl|h
   ·have:=decode_bound s p;omega
   ·exact runesF_bound s f _ r h
  ·cases h
def isW (r:Int):Bool:= !(classM r==0)
def termP (ws:List Int):ByteArray:=fitS 16 (runesS (textS (ws.map foldM)))
def wordsL:Nat→Nat→List Int→List (ByteArray×Nat)
 |0,_,_=>[]
 |_+1,_,[]=>[]
 |f+1,p,r::rs=>if isW r then(if stopP (termP (r::rs.takeWhile isW))then wordsL f (p+1) ((rs.dropWhile isW).drop 1)else(termP (r::rs.takeWhile isW),p)::wordsL f (p+1) ((rs.dropWhile isW).drop 1))else wordsL f p rs
def wordsR (p:Nat)(rs:List Int):List (ByteArray×Nat):=wordsL rs.length p rs
theorem dw_len (rs:List Int):((rs.dropWhile isW).drop 1).length≤rs.length:=by
 have:(rs.dropWhile isW).length≤rs.length:=(List.dropWhile_sublist isW).length_le;rw[List.length_drop];omega
theorem wordsL_more:∀(f p:Nat) (rs:List Int),rs.length≤f→wordsL (f+1) p rs=wordsL f p rs
 |0,p,rs,h=>by
  have:rs=[]:=List.eq_nil_of_length_eq_zero (by omega)
  subst this;rfl
 |f+1,p,[],_=>rfl
 |f+1,p,r::rs,h=>by
  rw[List.length_cons]at h;have hd:=dw_len rs;unfold wordsL;rw[wordsL_more f (p+1) _ (by omega),wordsL_more f p rs (by omega)]
theorem wordsL_any (f p:Nat)(rs:List Int)(h:rs.length≤f):wordsL f p rs=wordsR p rs:=by
 obtain⟨g,rfl⟩:∃g,f=rs.length+g:=⟨f-rs.length,by omega⟩
 clear h
 induction g with
 |zero=>rfl
 |succ g ih=>rw[←Nat.add_assoc,wordsL_more _ _ _ (by omega)];exact ih
theorem wordsR_nil (p:Nat):wordsR p []=[]:=rfl
theorem wordsR_cons (p:Nat)(r:Int)(rs:List Int):wordsR p (r::rs)=if isW r then(if stopP (termP (r::rs.takeWhile isW))then wordsR (p+1) ((rs.dropWhile isW).drop 1)else(termP (r::rs.takeWhile isW),p)::wordsR (p+1) ((rs.dropWhile isW).drop 1))else wordsR p rs:=by
 have hd:=dw_len rs;show wordsL (rs.length+1) p (r::rs)=_;unfold wordsL;rw[wordsL_any _ (p+1) _ hd]
 rfl
structure WdAt (rs:List Int)(i j:Nat)(wd:List Int):Prop where
 eq:wd=((rs.drop i).take (j-i)).map foldM
 tw:(rs.drop i).takeWhile isW=(rs.drop i).take (j-i)++(rs.drop j).takeWhile isW
 dw:(rs.drop i).dropWhile isW=(rs.drop j).dropWhile isW
theorem WdAt.start (rs:List Int)(i:Nat):WdAt rs i i []:=⟨by simp,by simp,rfl⟩
theorem WdAt.step {rs:List Int}{i j:Nat}{wd:List Int}(h:WdAt rs i j wd){r:Int}(hr:rs[j]? =some r)(hw:isW r=true)(hij:i≤j):WdAt rs i (j+1) (wd++[foldM r]):=by
 have hd:rs.drop j=r::rs.drop (j+1):=by
  exact c137
 have ht:(rs.drop i).take (j+1-i)=(rs.drop i).take (j-i)++[r]:=by
  rw[show j+1-i=(j-i)+1 by omega,List.take_add_one,List.getElem?_drop,show i+(j-i)=j by omega,hr];rfl
 have htw:=h.tw;have hdw:=h.dw;rw[hd,List.takeWhile_cons_of_pos hw]at htw;rw[hd,List.dropWhile_cons_of_pos hw]at hdw;exact⟨by rw[ht,h.eq,List.map_append];rfl,by rw[ht,htw,List.append_assoc];rfl,hdw⟩
theorem WdAt.stop {rs:List Int}{i j:Nat}{wd:List Int}(h:WdAt rs i j wd)(hs:∀r,rs[j]? =some r→isW r=false):wd=((rs.drop i).takeWhile isW).map foldM∧((rs.drop i).dropWhile isW).drop 1=rs.drop (j+1):=by
 by_cases hj:j<rs.length
 ·have hr:=List.getElem?_eq_getElem hj;have hd:rs.drop j=rs[j]::rs.drop (j+1):=List.drop_eq_getElem_cons hj;have hw:=hs _ hr;have htw:=h.tw;have hdw:=h.dw;rw[hd,List.takeWhile_cons_of_neg (by rw[hw];decide),List.append_nil]at htw
  rw[hd,List.dropWhile_cons_of_neg (by rw[hw];decide)]at hdw
  exact⟨by rw[htw];exact h.eq,by rw[hdw];rfl⟩
 ·have hd:rs.drop j=[]:=List.drop_eq_nil_of_le (by omega)
  have htw:=h.tw;have hdw:=h.dw;rw[hd]at htw hdw;rw[List.takeWhile_nil,List.append_nil]at htw;exact⟨by rw[htw];exact h.eq,by rw[hdw,List.drop_eq_nil_of_le (by omega:rs.length≤j+1)];rfl⟩
theorem wordsR_word {p:Nat}{D rest:List Int}{r:Int}(hD:D=r::rest)(hw:isW r=true):wordsR p D=if stopP (termP (D.takeWhile isW))then wordsR (p+1) ((D.dropWhile isW).drop 1)else(termP (D.takeWhile isW),p)::wordsR (p+1) ((D.dropWhile isW).drop 1):=by
 subst hD;rw[wordsR_cons,if_pos hw,List.takeWhile_cons_of_pos hw,List.dropWhile_cons_of_pos hw]
def tokC (t:ByteArray×Nat):List Value:=[.int .u8 0,.string t.1,.int .i64 (t.2:Int)]
def TokRow (w0 w:World)(v:Value)(ts:List (ByteArray×Nat)):Prop:=w.ownsRow w0.heap.size 128 3 v ts.length (ts.flatMap tokC)∧Keeps (· <w0.heap.size) w0 w
theorem Tryz.infoTok:(Tryz.prog.info? 128).map (fun i=>(i.zero,i.size,i.bytes))=some (some (.agg #[.int .u8 0,.string ⟨#[]⟩,I 0]),3,32):=by kernel_rfl
theorem TokRow.calls {w0 w w':World}{v:Value}{ts:List (ByteArray×Nat)}(h:TokRow w0 w v ts)(k:Keeps (· <w.heap.size) w w'):TokRow w0 w' v ts:=
 ⟨ownB_keepS h.1 k,h.2.trans (k.mono fun b hb=>Nat.lt_of_lt_of_le hb h.2.size)⟩
theorem TokRow.push {w0 wr w':World}{T:TypeId}{v v':Value}{acc:List (ByteArray×Nat)}{x:ByteArray×Nat}(h:TokRow w0 wr v acc)(hown:w'.ownsRow w0.heap.size 128 3 v' (acc.length+1)(acc.flatMap tokC++tokC x))(hg:(wr.alloc (.cells (tokC x).toArray T)).grownBy w' v.ownBlock):TokRow w0 w' v' (acc++[x]):=by
 refine⟨by rw[List.flatMap_append,List.length_append];simpa using hown,?_⟩
 have hB:=h.2.size;exact keeps_grown (h.2.alloc (fun b hb=>by omega) _) (by simp;omega) (ownB_keepS h.1 ((Keeps.refl _ _).alloc (fun b hb=>hb) _)) hg
theorem own_back {w:World}{B B':Nat}{E:TypeId}{n sz:Nat}{v:Value}{xs:List Value}(h:w.ownsRow B E sz v n xs)(hB:B'≤B):w.ownsRow B' E sz v n xs:=by
 refine⟨h.1,?_⟩
 rcases h.2 with h1|⟨g,c,cur,h1,h2,h3⟩
 ·exact Or.inl h1
 ·exact Or.inr ⟨g,c,cur,h1,by omega,h3⟩
theorem TokRow.back {w0 w1 w:World}{v:Value}{ts:List (ByteArray×Nat)}(h:TokRow w1 w v ts)(k:Keeps (· <w0.heap.size) w0 w1):TokRow w0 w v ts:=by
 have:=k.size;exact⟨own_back h.1 this,k.trans (h.2.mono fun b hb=>by omega)⟩
theorem oneTok (x:ByteArray×Nat):∀u∈tokC x,u.oneCell'=true:=by
 intro u hu;simp only[tokC,List.mem_cons,List.not_mem_nil,or_false]at hu
 rcases hu with rfl|rfl|rfl<;>rfl
set_option maxRecDepth 100000 in
set_option maxHeartbeats 4000000 in
theorem token_words (s:ByteArray)(hs:s.size≤1000000)(w:World)(hT:FoldTab w):
  Calls Tryz.prog 73 #[.string s] w fun e w'=>∃v,e= .returned v∧TokRow w w' v (wordsR 0 (runesS s)):=by
 have HT:=hid hT;clear hT;refine calls_hide fun R' hR'=>?_
 go_enter Tryz.func73,Tryz.ntmps73
 go_wp2_with fail
 go_step3
 go_wp2_with fail
 refine(utf_runes s (by omega) w).mono ?_
 rintro e w1 ⟨v,rfl,hN⟩;have hrl:(runesS s).length≤s.size:=runesF_len s s.size 0;have hrb:∀r∈runesS s,0≤r∧r≤1114111:=runesF_bound s s.size 0;generalize runesS s=rs at*;obtain⟨A0,c0,rfl⟩:=ownB_form hN.1;have hS:=ownB_slAt hN.1;have hT1:=HT.out.keep hN.2;have hw1:=hN.2.size;have HS:=hid hS;have HT1:=hid hT1;have Hrb:=hid hrb;clear hS hT1 hrb;have HK0:=hid hN.2
 clear hN HT
 go_wp2_with fail
 go_step3
 go_wp2_with fail
 go_loopw[4,5,6] (fun ov pv iv wr=>∃(i place:Nat) (acc:List (ByteArray×Nat)) (A:Option Addr) (cp:Nat),ov= .slice A acc.length cp∧pv=I (place:Int)∧iv=I (i:Int)∧i≤rs.length+1∧place≤i∧acc.length≤i∧Hid (TokRow w1 wr (.slice A acc.length cp) acc)∧Hid (acc++wordsR place (rs.drop i)=wordsR 0 rs)) (fun _ _ iv _=>rs.length+2-(intOf iv).toNat)
 case atStart=>exact⟨0,0,[],none,0,rfl,rfl,rfl,Nat.zero_le _,Nat.le_refl _,Nat.le_refl _,hid ⟨⟨rfl,Or.inl ⟨rfl,rfl⟩⟩,Keeps.refl _ _⟩,hid rfl⟩
 case round=>
  obtain⟨i,place,acc,A,cp,rfl,rfl,rfl,hi,hpi,hai,HR,HE⟩:=hrel
  by_cases hlt:i<rs.length
  ·have hltI:(i:Int)<(rs.length:Int):=by omega
   obtain⟨r,hr⟩:∃r,rs[i]? =some r:=⟨_,List.getElem?_eq_getElem hlt⟩;have hrr:=Hrb.out r (List.mem_of_getElem? hr);obtain⟨b,off,c9,hv,hb,hc⟩:=(HS.out.keep HR.out.2 (fun b hb=>hb.2)).get i r hr;injection hv with hA h2 h3
   subst hA h3;have hd:rs.drop i=r::rs.drop (i+1):=by
    exact c137
   have hex:=HE.out;have hTr:=HT1.out.keep HR.out.2
   by_cases hcl:classM r=0
   ·have hw:isW r=false:=by unfold isW;simp[hcl]
    rw[hd,wordsR_cons,hw,if_neg (by simp)]at hex
    have hcb:(classM r==0)=true:=by simp[hcl]
    have zz60:=@c345;exact c344
   ·have hw:isW r=true:=by unfold isW;simp[hcl]
    rw[wordsR_word hd hw]at hex;have hcb:(classM r==0)=false:=by simpa using hcl
    have zz60:=@c346;exact c344
  ·have hex:=HE.out;rw[List.drop_eq_nil_of_le (by omega),wordsR_nil,List.append_nil]at hex
   have Hex:=hid hex;clear hex
   go_wp2_with fail
   exact hR'.out _ _ ⟨_,rfl,by have:=HR.out.back HK0.out;rw[←Hex.out];exact this⟩
def tokF (i:Nat)(t:ByteArray×Nat):TokI:=((i:Int),t.1,(t.2:Int))
def toksL:Nat→List ByteArray→List TokI
 |_,[]=>[]
 |i,s::l=>(wordsR 0 (runesS s)).map (tokF i)++toksL (i+1) l
def longF (fs:List ByteArray):Bool:=decide (4<fs.length)||fs.any fun s=>decide (512<s.size)
def toksM (fs:List ByteArray):Option (List TokI):=if longF fs=true then none else if 64<(toksL 0 fs).length then none else some (toksL 0 fs)
theorem wordsL_len:∀(f p:Nat) (rs:List Int),(wordsL f p rs).length≤f
 |0,_,_=>Nat.le_refl _
 |_+1,_,[]=>Nat.zero_le _
 |f+1,p,r::rs=>by
  unfold wordsL;have h1:=wordsL_len f (p+1) ((rs.dropWhile isW).drop 1);have h2:=wordsL_len f p rs
  split
  ·split
   ·omega
   ·rw[List.length_cons];omega
  ·omega
theorem wordsR_len (s:ByteArray):(wordsR 0 (runesS s)).length≤s.size:=Nat.le_trans (wordsL_len _ _ _) (runesF_len s s.size 0)
def TokOwn (w:World)(K:Nat→Prop)(v:Value)(ts:List TokI):Prop:=w.ownsRow 0 128 3 v ts.length (ts.flatMap tokI)∧∀b,v.ownBlock=some b→¬K b
theorem tokI_len (t:TokI):(tokI t).length=3:=rfl
theorem tokC_len (t:ByteArray×Nat):(tokC t).length=3:=rfl
theorem any_take {α:Type}{p:α→Bool}{l:List α}{i:Nat}{x:α}(hx:l[i]? =some x)(h:(l.take i).any p=false)(hp:p x=false):(l.take (i+1)).any p=false:=by
 obtain⟨h1,h2⟩:=List.getElem?_eq_some_iff.1 hx;rw[List.take_add_one,hx,List.any_append,h]
 simp[hp]
set_option maxRecDepth 100000 in
set_option maxHeartbeats 4000000 in
theorem token_tokens (fs:List ByteArray)(A:Option Addr)(cp:Nat)(w:World)(K:Nat→Prop)(hb:∀b,K b→b<w.heap.size)(hsl:SlAt w K 1 (.slice A fs.length cp) fs.length (fs.map Value.string))(hT:FoldTab w)(hfl:fs.length≤1000000):
  Calls Tryz.prog 50 #[.slice A fs.length cp] w fun e w'=>(match toksM fs with
   |none=>e= .returned (.tuple #[.slice none 0 0,.int .i64 4])
   |some l=>∃v,e= .returned (.tuple #[v,.int .i64 0])∧TokOwn w' (· <w.heap.size) v l)∧Keeps (· <w.heap.size) w w':=by
 have zz174:=@c812;exact c810
theorem Tryz.infoSeg:(Tryz.prog.info? 65).map (fun i=>(i.zero,i.size,i.bytes))=some (some (.agg #[I 0,I 0,.bool false]),3,24):=by kernel_rfl
set_option maxRecDepth 100000 in
set_option maxHeartbeats 1000000 in
theorem seg_clone (l:List SegM)(A:Option Addr)(cp:Nat)(w:World)(K:Nat→Prop)(hb:∀b,K b→b<w.heap.size)(hsl:SlAt w K 3 (.slice A l.length cp) l.length (l.flatMap SegM.cells))(hl:0<l.length∧l.length≤65536):
  Calls Tryz.prog 54 #[.slice A l.length cp] w fun e w'=>∃v,e= .returned v∧w'.ownsRow w.heap.size 65 3 v l.length (l.flatMap SegM.cells)∧Keeps (· <w.heap.size) w w':=by
 obtain⟨hl0,hl1⟩:=hl;obtain⟨A',cap,h1,h2,h3,h4,h5⟩:=hsl;obtain⟨b,off,rfl,hkb,hc⟩:=h5 hl0;injection h1 with h1
 subst h1;have hbl:=hb b hkb;clear hkb;have Hc:=hid hc;have Hb:=hid hb;clear hc hb;refine calls_hide fun R' hR'=>?_
 go_enter Tryz.func54,Tryz.ntmps54
 have hnil:∀W,(Sem.run Tryz.prog (binOp BinOp.eql 44 (.slice (some ⟨b,off,none⟩) l.length cap) (.slice none 0 0)) W)= .ok (.bool false) W:=fun W=>by rfl
 go_upto_region 3 with fail
 have hcc:∀j u,(l.flatMap SegM.cells)[j]? =some u→(w.alloc (.cells #[] 65)).cell? ((⟨b,off,none⟩:Addr).add j)=some u:=fun j u hu=>by
  rw[Addr.add_lit];exact(World.cell?_of_block (a:=⟨b,off+j,none⟩) (((Keeps.refl (· <w.heap.size) w).alloc (fun b hb=>hb) _).block b hbl)).trans (Hc.out j u hu)
 have hone:∀u∈l.flatMap SegM.cells,u.oneCell'=true:=fun u hu=>by
  exact c146
 have hlen:(l.flatMap SegM.cells).length=l.length*3:=h4;have Hcc:=hid hcc;have Hone:=hid hone;have Hlen:=hid hlen;clear hcc hone hlen;obtain⟨i0,hi,hz0,hz1,hz2⟩:=info_partsF Tryz.infoSeg
 go_wp2_with (at_builtin;go_must (refine wpList_append_own_at _ rfl _ _ 44 rfl w.heap.size 65 i0 (.agg #[I 0,I 0,.bool false]) 3 24 Tryz.underlying44 hi hz0 hz1 hz2 rfl (by decide) (.slice (some ⟨w.heap.size,0,none⟩) 0 0) 0 [] rfl (own_lit w w.heap.size _ _ 3 0 [] rfl rfl (by decide) (Nat.le_refl _)) ⟨b,off,none⟩ l.length cp (l.flatMap SegM.cells) rfl Hlen.out Hcc.out ?_ ?_ ?_ ?_ ?_))
 all_goals(try(first|exact Hone.out|exact fun u x hx hu=>Hone.out u (List.mem_flatMap.2 ⟨x,hx,hu⟩)|(simp only[maxLen];omega)|omega|(simp;done)|(simp;omega)))
 intro v' w7 hown hgr _ hf;obtain⟨A',cp',rfl⟩:=ownB_form hown;have hka:Keeps (· <w.heap.size) w w7:=((Keeps.refl (· <w.heap.size) w).alloc (fun b hb=>hb) _).trans (keeps_append (fun b hb=>by have hb:b<w.heap.size:=hb;have:=World.size_alloc w (.cells #[] 65);omega) (fun b hb hk=>by have hk:b<w.heap.size:=hk;have hb:some w.heap.size=some b:=hb;injection hb with hb;omega) hgr)
 clear hgr hf;have Hown:=hid hown;have Hka:=hid hka;clear hown hka
 go_wp2_with fail
 exact hR'.out _ _ ⟨_,rfl,Hown.out,Hka.out⟩
end Go.Proofs.YtogdknnkhkjmcaaGreatDoor
