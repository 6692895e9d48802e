/- Layer 4 (utf): contract of Fit. -/
import Derived.Test.YtogdknnkhkjmcaaGreatDoorJRcE
namespace Go.Proofs.YtogdknnkhkjmcaaGreatDoor
open Go.RowKit
set_option linter.all false
def fitL (n:Nat)(acc:List UInt8):List Int→List UInt8
 | []=>acc
 |r::rs=>if(encB r).length+acc.length>n then acc else fitL n (acc++encB r) rs
theorem fitL_cons (n:Nat)(acc:List UInt8)(r:Int)(rs:List Int):fitL n acc (r::rs)=if(encB r).length+acc.length>n then acc else fitL n (acc++encB r) rs:=rfl
def fitS (n:Nat)(rs:List Int):ByteArray:=⟨(fitL n [] rs).toArray⟩
def u8i (bs:List UInt8):List Int:=bs.map fun b=>(b.toNat:Int)
theorem u8i_map (bs:List UInt8):(u8i bs).map (Value.int .u8)=bs.map u8v:=by unfold u8i;rw[List.map_map];rfl
theorem u8i_len (bs:List UInt8):(u8i bs).length=bs.length:=by unfold u8i;simp
theorem ItRow.newB {w wr:World}{s:ByteArray}{pos:Nat}{v:Value}{acc:List UInt8}(h:ItRow w wr s pos 5 (Value.int .u8) v (u8i acc)):NewB w wr v acc:=by
 have:=h.new;unfold NewRow at this;rw[u8i_map,u8i_len]at this;exact this
set_option maxRecDepth 100000 in
set_option maxHeartbeats 2000000 in
theorem utf_fit (s:ByteArray)(hs:s.size≤17592186044416)(n:Nat)(hn:n≤1000)(w:World):
  Calls Tryz.prog 99 #[.string s,I n] w fun e w'=>e= .returned (.string (fitS n (runesS s)))∧Keeps (· <w.heap.size) w w':=by
 have h0:ItRow w (w.iter s 0) s 0 5 (Value.int .u8) (.slice none 0 0) (u8i []):=⟨World.iter_heap w s 0,⟨rfl,Or.inl ⟨rfl,rfl⟩⟩,(Keeps.refl _ _).alloc (fun b hb=>hb) _,by simp[World.iter]⟩
 have H0:=hid h0;clear h0;refine calls_hide fun R' hR'=>?_
 go_enter Tryz.func99,Tryz.ntmps99
 go_wp2_with fail
 go_loopw[5] (fun ov wr=>∃(pos:Nat) (acc:List UInt8) (A:Option Addr) (cp:Nat),ov= .slice A acc.length cp∧acc.length≤n∧pos≤s.size+4∧wr.heap[w.heap.size]? =some (.stringIter s pos)∧Hid (ItRow w wr s pos 5 (Value.int .u8) (.slice A acc.length cp) (u8i acc))∧Hid (fitL n acc (runesF s s.size pos)=fitL n [] (runesS s))) (fun _ wr=>s.size+4-wr.iterPos w.heap.size)
 case atStart=>exact⟨0,[],none,0,rfl,Nat.zero_le _,Nat.zero_le _,H0.out.it,H0,hid rfl⟩
 case round=>
  obtain⟨pos,acc,A,cp,rfl,hap,hps,hit,HR,HE⟩:=hrel
  by_cases hp:pos<s.size
  ·have hnx:∀ty,(Instr.next (.pointer (some ⟨w.heap.size,0,none⟩)) true ty).run Tryz.prog wr=_:=fun ty=>Lib.run_next_any_at wr w.heap.size s pos ty hit hp
   have zz46:=@c301;exact c299
  ·have hnx:∀ty,(Instr.next (.pointer (some ⟨w.heap.size,0,none⟩)) true ty).run Tryz.prog wr=_:=fun ty=>Lib.run_next_end_at wr w.heap.size s pos ty hit hp
   have hex:=HE.out;rw[runesF_end hp]at hex;have hfs:fitS n (runesS s)=⟨acc.toArray⟩:=by unfold fitS;rw[←hex];rfl
   have hcv:=HR.out.newB.conv (P:=Tryz.prog) Tryz.underlying186 Tryz.underlying5 Tryz.underlying9
   have Hex:=hid hex;have Hfs:=hid hfs;clear hex hfs;clear HE
   go_wp2_with fail
   exact hR'.out _ _ ⟨by rw[Hfs.out];rfl,HR.out.keeps⟩
def stopsP:List (List UInt8):=[[97],[97,110],[97,110,100],[97,114,101],[97,115],[97,116],[98,101],[98,121],[102,111,114],[105,110],[105,115],[105,116],[111,102],[111,110],[111,114],[116,104,101],[116,111]]
def stopP (s:ByteArray):Bool:=stopsP.any fun t=>s.toList==t
set_option maxRecDepth 100000 in
set_option maxHeartbeats 2000000 in
theorem token_stop (s:ByteArray)(w:World):Calls Tryz.prog 101 #[.string s] w fun e w'=>e= .returned (.bool (stopP s))∧w=w':=by
 have hq:stopP s=stopsP.any fun t=>s.toList==t:=rfl;unfold stopsP at hq;simp only[List.any_cons,List.any_nil]at hq;have HQ:=hid hq;clear hq;refine calls_hide fun R' hR'=>?_
 go_enter Tryz.func101,Tryz.ntmps101
 go_wp2_with fail
 all_goals refine hR'.out _ _ ⟨?_,rfl⟩
 all_goals(have hq:=HQ.out;clear HQ hR';first|(exfalso;clear hq;simp_all;done)|(rw[hq];show Ending.returned (.bool _)=Ending.returned (.bool _);congr 2;simp only[*,Bool.true_or,Bool.or_true,Bool.or_false]))
def lettersP:List (Int×Int):=[(0x41,0x5A),(0x61,0x7A),(0xC0,0xD6),(0xD8,0xF6),(0xF8,0x24F),(0x386,0x386),(0x388,0x38A),(0x38C,0x38C),(0x38E,0x3A1),(0x3A3,0x3CE),(0x400,0x481),(0x48A,0x52F),(0x5D0,0x5EA)]
def highP:List (Int×Int):=[(0x4E00,0x9FFF),(0xAC00,0xD7A3)]
def spanC (l:List (Int×Int)):List Value:=l.flatMap fun p=>[.int .i32 p.1,.int .i32 p.2]
def classL (r:Int):List (Int×Int)→Int
 | []=>0
 |p::l=>if r<p.1 then 0 else if r≤p.2 then 1 else classL r l
def classM (r:Int):Int:=
 if(48≤r∧r≤57)∨(1632≤r∧r≤1641)then 2 else if(19968≤r∧r≤40959)∨(44032≤r∧r≤55203)then 1 else classL r lettersP
def movesP:List (Int×Int×Int×Int):=[(0x41,0x5A,1,32),(0xC0,0xD6,1,32),(0xD8,0xDE,1,32),(0x100,0x137,2,1),(0x139,0x148,3,1),(0x14A,0x177,2,1),
 (0x178,0x178,1,-121),(0x179,0x17E,3,1),(0x17F,0x17F,1,-268),(0x386,0x386,1,0x26),(0x388,0x38A,1,0x25),(0x38C,0x38C,1,0x40),
 (0x38E,0x38F,1,0x3F),(0x391,0x3A1,1,32),(0x3A3,0x3AB,1,32),(0x3C2,0x3C2,1,1),(0x400,0x40F,1,80),(0x410,0x42F,1,32),
 (0x460,0x481,2,1),(0x48A,0x4BF,2,1),(0x4D0,0x52F,2,1),(0x660,0x669,1,-0x630),(0,0,0,0),(0,0,0,0)]
def moveC (l:List (Int×Int×Int×Int)):List Value:=l.flatMap fun p=>[.int .i32 p.1,.int .i32 p.2.1,.int .i64 p.2.2.1,.int .i32 p.2.2.2]
structure FoldTab (w:World):Prop where
 high:w.rangeAt 1 0 (spanC highP)
 letters:w.rangeAt 2 0 (spanC lettersP)
 moves:w.rangeAt 3 0 (moveC movesP)
 lt:1<w.heap.size∧2<w.heap.size∧3<w.heap.size
theorem FoldTab.keep {w w':World}(h:FoldTab w)(k:Keeps (· <w.heap.size) w w'):FoldTab w':=by
 have go:∀b cs,b<w.heap.size→w.rangeAt b 0 cs→w'.rangeAt b 0 cs:=fun b cs hb hr j v hv=>(World.cell?_of_block (a:=⟨b,0+j,none⟩) (k.block b hb)).trans (hr j v hv);have:=k.size;exact⟨go _ _ h.lt.1 h.high,go _ _ h.lt.2.1 h.letters,go _ _ h.lt.2.2 h.moves,by have:=h.lt;omega⟩
theorem letters_index (i:Nat)(hi:i<13)(w:World):∃lo hi,lettersP[i]? =some (lo,hi)∧(Instr.index 195 (.agg (spanC lettersP).toArray) (I (i:Int))).run Tryz.prog w= .ok (.agg #[.int .i32 lo,.int .i32 hi]) w:=by
 rcases(by omega:i=0∨i=1∨i=2∨i=3∨i=4∨i=5∨i=6∨i=7∨i=8∨i=9∨i=10∨i=11∨i=12)with rfl|rfl|rfl|rfl|rfl|rfl|rfl|rfl|rfl|rfl|rfl|rfl|rfl
 all_goals exact⟨_,_,rfl,by kernel_rfl⟩
set_option maxRecDepth 100000 in
set_option maxHeartbeats 2000000 in
theorem fold_class (r:Int)(hr: -2147483648≤r∧r≤2147483647)(w:World)(hT:FoldTab w):Calls Tryz.prog 97 #[.int .i32 r] w fun e w'=>e= .returned (I (classM r))∧Keeps (· <w.heap.size) w w':=by
 have HT:=hid hT;have h0:=hT.high 0 _ rfl;have h1:=hT.high 1 _ rfl;have h2:=hT.high 2 _ rfl;have h3:=hT.high 3 _ rfl;simp only[Nat.zero_add]at h0 h1 h2 h3;clear hT;refine calls_hide fun R' hR'=>?_
 go_enter Tryz.func97,Tryz.ntmps97
 by_cases a1:48≤r∧r≤57
 ·obtain⟨b1,b2⟩:=a1;have hm:classM r=2:=by unfold classM;rw[if_pos (Or.inl ⟨b1,b2⟩)]
  exact c104
 by_cases a2:1632≤r∧r≤1641
 ·obtain⟨b1,b2⟩:=a2;have hm:classM r=2:=by unfold classM;rw[if_pos (Or.inr ⟨b1,b2⟩)]
  exact c104
 by_cases a3:19968≤r∧r≤40959
 ·obtain⟨b1,b2⟩:=a3;have hm:classM r=1:=by unfold classM;rw[if_neg (by omega),if_pos (Or.inl ⟨b1,b2⟩)]
  exact c104
 by_cases a4:44032≤r∧r≤55203
 ·obtain⟨b1,b2⟩:=a4;have hm:classM r=1:=by unfold classM;rw[if_neg (by omega),if_pos (Or.inr ⟨b1,b2⟩)]
  exact c104
 have hm:classM r=classL r lettersP:=by unfold classM;rw[if_neg (by omega),if_neg (by omega)]
 have n1:¬(48≤r∧r≤57):=a1;have HM:=hid hm;clear hm;obtain⟨LA,hLA⟩:∃LA,LA=(spanC lettersP).toArray:=⟨_,rfl⟩
 rcases(by omega:r<48∨(57<r∧r<1632)∨(1641<r∧r<19968)∨(40959<r∧r<44032)∨55203<r)with c1|⟨c1,c2⟩|⟨c1,c2⟩|⟨c1,c2⟩|c1
 all_goals
  clear a1 a2 a3 a4 n1
  go_wp2_with fail
  go_step3
  go_wp2_with fail
  go_step3
  go_wp2_with (with_reducible refine wpList_load_mid rfl 195 (.global 2) rfl 2 0 rfl (spanC lettersP) _ HT.out.letters Tryz.underlying195 rfl (by kernel_rfl) ?_)
  rw[←hLA];have HLA:=hid hLA;clear hLA
  go_wp2_with fail
  go_loopw[3,45] (fun cv iv wr=>∃i:Nat,cv=I 0∧iv=I (i:Int)∧i≤13∧Hid (classL r (lettersP.drop i)=classM r)∧Hid (Keeps (· <w.heap.size) w wr)) (fun _ iv _=>13-(intOf iv).toNat)
  case atStart=>exact⟨0,rfl,rfl,by decide,hid HM.out.symm,hid (Keeps.refl _ _)⟩
  case round=>
   obtain⟨i,rfl,rfl,hi,HC,HK⟩:=hrel
   by_cases hlt:i<13
   ·have hltI:(i:Int)<13:=by omega
    obtain⟨lo,hi9,hg,-⟩:=letters_index i hlt w;have hix:∀w,(Instr.index 195 (.agg LA) (I (i:Int))).run Tryz.prog w= .ok (.agg #[.int .i32 lo,.int .i32 hi9]) w:=by
     intro w;obtain⟨lo',hi',hg',h⟩:=letters_index i hlt w;rw[hg]at hg';injection hg' with hg'
     injection hg' with e1 e2
     rw[HLA.out,e1,e2];exact h
    have hcl:=HC.out;have hd:lettersP.drop i=(lo,hi9)::lettersP.drop (i+1):=by
     obtain⟨h9,h8⟩:=List.getElem?_eq_some_iff.1 hg;rw[List.drop_eq_getElem_cons h9,h8]
    rw[hd]at hcl;unfold classL at hcl;dsimp only at hcl;have hbs:=HK.out.size;have hk2:=HK.out.alloc (fun b hb=>Nat.lt_of_lt_of_le hb hbs) (.cells #[.int .i32 lo,.int .i32 hi9] 193);clear HC hd hg
    by_cases q1:r<lo
    ·rw[if_pos q1]at hcl;exact c36
    ·by_cases q2:r≤hi9
     ·rw[if_neg q1,if_pos q2]at hcl;exact c36
     ·rw[if_neg q1,if_neg q2]at hcl;exact c117
   ·obtain rfl:i=13:=by omega
    have hcl:=HC.out;have hcl:0=classM r:=hcl;have Hcl:=hid hcl;clear hcl
    go_wp2_with fail
    exact hR'.out _ _ ⟨by rw[←Hcl.out];first|rfl|skip,HK.out⟩
def foldL (r:Int):List (Int×Int×Int×Int)→Int
 | []=>r
 |p::l=>if p.2.2.1=0∨r<p.1 then r else if r>p.2.1 then foldL r l else if p.2.2.1=1∨(p.2.2.1=2∧r%2=0)∨(p.2.2.1=3∧r%2=1)then r+p.2.2.2 else r
def foldM (r:Int):Int:=foldL r movesP
theorem moves_index (i:Nat)(hi:i<24)(w:World):∃lo hi ev by',movesP[i]? =some (lo,hi,ev,by')∧(0≤lo∧hi≤1641∧-2000≤by'∧by'≤200)∧(Instr.index 198 (.agg (moveC movesP).toArray) (I (i:Int))).run Tryz.prog w= .ok (.agg #[.int .i32 lo,.int .i32 hi,I ev,.int .i32 by']) w:=by
 rcases(by omega:i=0∨i=1∨i=2∨i=3∨i=4∨i=5∨i=6∨i=7∨i=8∨i=9∨i=10∨i=11∨i=12∨i=13∨i=14∨i=15∨i=16∨i=17∨i=18∨i=19∨i=20∨i=21∨i=22∨i=23)with rfl|rfl|rfl|rfl|rfl|rfl|rfl|rfl|rfl|rfl|rfl|rfl|rfl|rfl|rfl|rfl|rfl|rfl|rfl|rfl|rfl|rfl|rfl|rfl
 all_goals exact⟨_,_,_,_,rfl,by decide,by kernel_rfl⟩
set_option maxRecDepth 100000 in
set_option maxHeartbeats 4000000 in
theorem fold_fold (r:Int)(hr: -2147483648≤r∧r≤2147483647)(w:World)(hT:FoldTab w):Calls Tryz.prog 98 #[.int .i32 r] w fun e w'=>e= .returned (.int .i32 (foldM r))∧Keeps (· <w.heap.size) w w':=by
 have HT:=hid hT;clear hT;obtain⟨LA,hLA⟩:∃LA,LA=(moveC movesP).toArray:=⟨_,rfl⟩;refine calls_hide fun R' hR'=>?_
 go_enter Tryz.func98,Tryz.ntmps98
 go_wp2_with fail
 go_step3
 go_wp2_with fail
 go_step3
 go_wp2_with (with_reducible refine wpList_load_mid rfl 198 (.global 3) rfl 3 0 rfl (moveC movesP) _ HT.out.moves Tryz.underlying198 rfl (by kernel_rfl) ?_)
 rw[←hLA];have HLA:=hid hLA;clear hLA
 go_wp2_with fail
 go_loopw[3,8] (fun ov iv wr=>∃i:Nat,ov= .int .i32 r∧iv=I (i:Int)∧i≤24∧Hid (foldL r (movesP.drop i)=foldM r)∧Hid (Keeps (· <w.heap.size) w wr)) (fun _ iv _=>24-(intOf iv).toNat)
 case atStart=>exact⟨0,rfl,rfl,by decide,hid rfl,hid (Keeps.refl _ _)⟩
 case round=>
  obtain⟨i,rfl,rfl,hi,HC,HK⟩:=hrel
  by_cases hlt:i<24
  ·have hltI:(i:Int)<24:=by omega
   obtain⟨lo,hi9,ev,bb,hg,⟨g0,g1,g2,g3⟩,-⟩:=moves_index i hlt w;have hix:∀w,(Instr.index 198 (.agg LA) (I (i:Int))).run Tryz.prog w= .ok (.agg #[.int .i32 lo,.int .i32 hi9,I ev,.int .i32 bb]) w:=by
    intro w;obtain⟨lo',hi',ev',by',hg',_,h⟩:=moves_index i hlt w
    rw[hg]at hg';injection hg' with hg'
    injection hg' with e1 e2
    injection e2 with e2 e3
    injection e3 with e3 e4
    rw[HLA.out,e1,e2,e3,e4];exact h
   have hcl:=HC.out;have hd:movesP.drop i=(lo,hi9,ev,bb)::movesP.drop (i+1):=by
    obtain⟨h9,h8⟩:=List.getElem?_eq_some_iff.1 hg;rw[List.drop_eq_getElem_cons h9,h8]
   rw[hd]at hcl;unfold foldL at hcl;dsimp only at hcl;have hbs:=HK.out.size;have hk2:=HK.out.alloc (fun b hb=>Nat.lt_of_lt_of_le hb hbs) (.cells #[.int .i32 lo,.int .i32 hi9,I ev,.int .i32 bb] 197);clear HC hd hg
   by_cases q0:ev=0
   ·rw[if_pos (Or.inl q0)]at hcl;have b0:(ev==0)=true:=by simp[q0]
    have Q0:=hid q0;clear q0;exact c36
   have b0:(ev==0)=false:=by simpa using q0
   by_cases q1:r<lo
   ·rw[if_pos (Or.inr q1)]at hcl;exact c36
   rw[if_neg (by rintro(h|h);exact q0 h;exact q1 h)]at hcl
   by_cases q2:r>hi9
   ·rw[if_pos q2]at hcl;exact c117
   rw[if_neg q2]at hcl
   by_cases q3:ev=1
   ·rw[if_pos (Or.inl q3)]at hcl;have b1:(ev==1)=true:=by simp[q3]
    have Q3:=hid q3;clear q3 q0;exact c36
   have b1:(ev==1)=false:=by simpa using q3
   have hr2:r.tmod 2=r%2:=Int.tmod_eq_emod_of_nonneg (by omega)
   have hbd: -2147483648≤r+bb∧r+bb≤2147483647:=by omega
   by_cases q4:ev=2
   ·have b2:(ev==2)=true:=by simp[q4]
    have b3:(ev==3)=false:=by simp[q4]
    by_cases q5:r%2=0
    ·rw[if_pos (Or.inr (Or.inl ⟨q4,q5⟩))]at hcl;have b5:(r%2==0)=true:=by simp[q5]
     clear q0 q3 q4 q5 hr2;exact c36
    ·rw[if_neg (by omega)]at hcl
     have b5:(r%2==0)=false:=by simpa using q5
     clear q0 q3 q4 q5 hr2;exact c36
   have b2:(ev==2)=false:=by simpa using q4
   by_cases q6:ev=3
   ·have b3:(ev==3)=true:=by simp[q6]
    by_cases q5:r%2=1
    ·rw[if_pos (Or.inr (Or.inr ⟨q6,q5⟩))]at hcl;have b5:(r%2==1)=true:=by simp[q5]
     clear q0 q3 q4 q5 q6 hr2;exact c36
    ·rw[if_neg (by omega)]at hcl
     have b5:(r%2==1)=false:=by simpa using q5
     clear q0 q3 q4 q5 q6 hr2;exact c36
   have b3:(ev==3)=false:=by simpa using q6
   rw[if_neg (by omega)]at hcl
   clear q0 q3 q4 q6 hr2;exact c36
  ·obtain rfl:i=24:=by omega
   have hcl:=HC.out;have hcl:r=foldM r:=hcl;have HCL:=hid hcl;clear hcl
   go_wp2_with fail
   exact hR'.out _ _ ⟨by rw[←HCL.out];first|rfl|skip,HK.out⟩
end Go.Proofs.YtogdknnkhkjmcaaGreatDoor
