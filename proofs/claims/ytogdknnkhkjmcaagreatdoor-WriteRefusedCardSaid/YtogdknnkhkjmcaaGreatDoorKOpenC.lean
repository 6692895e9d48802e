/- Lemmas on the programs that the statement reaches. -/
import Derived.Test.YtogdknnkhkjmcaaGreatDoorKLwE
namespace Go.Proofs.YtogdknnkhkjmcaaGreatDoor
open Go.RowKit
set_option linter.all false
structure OpV where
 del:Bool
 id:Int
 A:Option Addr
 c:Nat
 fs:List ByteArray
def OpV.cells (o:OpV):List Value:=[.bool o.del,.int .u32 o.id,.slice o.A o.fs.length o.c]
structure OpV.ok (w:World)(K:Nat→Prop)(o:OpV):Prop where
 sl:SlAt w K 1 (.slice o.A o.fs.length o.c) o.fs.length (o.fs.map Value.string)
 id:U32 o.id
 sz:∀x∈o.fs,x.size≤140737488355328
theorem OpV.ok.keep {w w':World}{K L:Nat→Prop}{o:OpV}(h:o.ok w K)(k:Keeps L w w')(hL:∀b,K b→L b):o.ok w' K:=⟨h.sl.keep k hL,h.id,h.sz⟩
set_option maxHeartbeats 1000000 in
theorem law_great (o:OpV)(w:World)(K:Nat→Prop)(hb:∀b,K b→b<w.heap.size)(ho:o.ok w K):
  Z 12 #[.agg o.cells.toArray] w fun e w'=>∃b,e= .returned (.bool b)∧(b=false→o.fs.length≤3000)∧Keeps (· <w.heap.size) w w':=by
 obtain⟨del,id,A,c,fs⟩:=o;obtain⟨h1,h2,h3⟩:=ho;dsimp only at h1 h2 h3;have H1:=hid h1;have H3:=hid h3;have Hb:=hid hb;obtain⟨A',cap,e1,e2,e3,e4,e5⟩:=h1;injection e1 with e1 _ e1c
 subst e1 e1c;unfold maxLen at e3;have H5:=hid e5;clear h2 h3 hb e4 e5;unfold OpV.cells;dsimp only;refine calls_hide fun R' hR'=>?_
 go_enter Tryz.func12,Tryz.ntmps12
 go_wp2_with fail
 go_loopw[3,10] (fun nv iv wx=>∃(n i:Nat),nv=I (n:Int)∧iv=I (i:Int)∧i≤fs.length∧i≤n∧n≤3000∧Hid (Keeps (· <w.heap.size) w wx)) (fun _ iv _=>fs.length-(intOf iv).toNat)
 case atStart=>exact⟨0,0,rfl,rfl,Nat.zero_le _,Nat.le_refl _,by decide,hid ((Keeps.refl _ _).alloc (fun b hb=>hb) _)⟩
 case round=>
  obtain⟨n,i,rfl,rfl,hi,hin,hn,HK⟩:=hrel
  by_cases hlt:i<fs.length
  ·have hltI:(i:Int)<(fs.length:Int):=by omega
   obtain⟨b,off,rfl,hkb,hc⟩:=H5.out (by omega)
   have a0:=(World.cell?_of_block (a:=⟨b,off+i,none⟩) (HK.out.block b (Hb.out b hkb))).trans (hc i (.string fs[i]) (by rw[List.getElem?_map,List.getElem?_eq_getElem hlt];rfl))
   have hsz:=H3.out fs[i] (List.getElem_mem hlt);generalize fs[i]=x at*;clear hc;have hw1:IntKind.i64.wrap (1+(x.size:Int))=1+(x.size:Int):=IntWalk.i64_in _ (by omega)
   have hw2:IntKind.i64.wrap ((n:Int)+(1+(x.size:Int)))=(n:Int)+(1+(x.size:Int)):=IntWalk.i64_in _ (by omega)
   by_cases hg:n+(1+x.size)>3000
   ·have hg1:decide ((n:Int)+(1+(x.size:Int))>3000)=true:=decide_eq_true (by omega)
    have hg2:decide ((3000:Int)<(n:Int)+(1+(x.size:Int)))=true:=decide_eq_true (by omega)
    go_wp2_with fail
    exact hR'.out _ _ ⟨true,rfl,fun h=>Bool.noConfusion h,HK.out⟩
   ·have hg1:decide ((n:Int)+(1+(x.size:Int))>3000)=false:=decide_eq_false (by omega)
    have hg2:decide ((3000:Int)<(n:Int)+(1+(x.size:Int)))=false:=decide_eq_false (by omega)
    go_wp2_with fail
    go_roundw
    case rel=>exact⟨n+(1+x.size),i+1,by first|rfl|(congr 1;omega)|go_num,by go_num,by omega,by omega,by omega,HK⟩
    case measure=>exact msA
  ·obtain rfl:i=fs.length:=by omega
   have hltI:¬(fs.length:Int)<(fs.length:Int):=by omega
   go_wp2_with fail
   exact hR'.out _ _ ⟨false,rfl,fun _=>by show fs.length≤3000;omega,HK.out⟩
theorem opv_at:∀(l:List OpV) (k:Nat) (x:OpV),l[k]? =some x→(l.flatMap OpV.cells)[k*3+0]? =some (.bool x.del)∧(l.flatMap OpV.cells)[k*3+1]? =some (J x.id)∧(l.flatMap OpV.cells)[k*3+2]? =some (.slice x.A x.fs.length x.c)
 |y::l,0,x,h=>by
  simp at h;subst h;exact⟨rfl,rfl,rfl⟩
 |y::l,k+1,x,h=>by
  have ih:=opv_at l k x (by simpa using h)
  have e1:(k+1)*3=k*3+3:=by omega
  rw[e1];exact ih
set_option maxHeartbeats 2000000 in
theorem law_light (ops:List OpV)(A:Option Addr)(c:Nat)(w:World)(K:Nat→Prop)(hb:∀b,K b→b<w.heap.size)(hsl:SlAt w K 3 (.slice A ops.length c) ops.length (ops.flatMap OpV.cells))(ho:∀o∈ops,o.ok w K):
  Z 11 #[.slice A ops.length c] w fun e w'=>(∃k c',k≤ops.length∧e= .returned (.slice A k c'))∧Keeps (· <w.heap.size) w w':=by
 have H0:=hid ho;have Hb:=hid hb;obtain⟨A',cap,e1,e2,e3,e4,e5⟩:=hsl;injection e1 with e1 _ e1c
 subst e1 e1c;unfold maxLen at e3;have H5:=hid e5;clear ho hb e4 e5;refine calls_hide fun R' hR'=>?_
 go_enter Tryz.func11,Tryz.ntmps11
 go_wp2_with fail
 go_loopw[3,10] (fun nv iv wx=>∃(n i:Nat),nv=I (n:Int)∧iv=I (i:Int)∧i≤ops.length∧n≤2500∧Hid (Keeps (· <w.heap.size) w wx)) (fun _ iv _=>ops.length-(intOf iv).toNat)
 case atStart=>exact⟨0,0,rfl,rfl,Nat.zero_le _,by decide,hid (Keeps.refl _ _)⟩
 case round=>
  obtain⟨n,i,rfl,rfl,hi,hn,HK⟩:=hrel
  by_cases hlt:i<ops.length
  ·have hltI:(i:Int)<(ops.length:Int):=by omega
   obtain⟨b,off,rfl,hkb,hc⟩:=H5.out (by omega)
   obtain⟨o,ho⟩:∃o,ops[i]? =some o:=⟨_,List.getElem?_eq_getElem hlt⟩;obtain⟨p0,p1,p2⟩:=opv_at ops i o ho;have hbl:=HK.out.block b (Hb.out b hkb);have a0:=(World.cell?_of_block (a:=⟨b,off+(i*3+0),none⟩) hbl).trans (hc _ _ p0);have a1:=(World.cell?_of_block (a:=⟨b,off+(i*3+1),none⟩) hbl).trans (hc _ _ p1);have a2:=(World.cell?_of_block (a:=⟨b,off+(i*3+2),none⟩) hbl).trans (hc _ _ p2)
   simp only[Nat.add_zero,←Nat.add_assoc]at a0 a1 a2;have hok:=H0.out o (List.mem_of_getElem? ho);obtain⟨del,id,FA,fc,fs⟩:=o;dsimp only at a0 a1 a2;obtain⟨h1,h2,h3⟩:=hok;dsimp only at h1 h2 h3;have H3:=hid h3;obtain⟨A',cap,e1,f2,f3,f4,f5⟩:=h1;injection e1 with e1 _ e1c
   subst e1 e1c;unfold maxLen at f3;have H6:=hid f5;clear h2 h3 f4 f5 hc p0 p1 p2 hbl ho
   go_upto_region 5 with fail
   refine wp_gen (fun W3=>Blk W3 wr.heap.size [.bool del,J id,.slice FA fs.length fc]∧Keeps (· <w.heap.size) w W3) ⟨Blk.new wr [.bool del,J id,.slice FA fs.length fc] _,HK.out.trans (((Keeps.refl (· <wr.heap.size) wr).alloc (fun b hb=>hb) _).mono fun b hb=>by have:=HK.out.size;omega)⟩ (fun w2 HW=>?_)
   obtain⟨hB,hk2⟩:=HW;generalize wr.heap.size=BB at*;obtain⟨c0,c1,c2⟩:=hB.c3;clear a0 a1 a2 HK hB;have Hk2:=hid hk2;clear hk2
   go_wp2_with fail
   go_loopw[3,19] (fun nv iv wx=>∃(n' k:Nat),nv=I (n':Int)∧iv=I (k:Int)∧k≤fs.length∧n'≤2500∧Hid (Keeps (· <w.heap.size) w wx)) (fun _ iv _=>fs.length-(intOf iv).toNat)
   case atStart=>exact⟨n,0,rfl,rfl,Nat.zero_le _,hn,Hk2⟩
   case round=>
    clear c0 c1 c2 Hk2;obtain⟨n',k,rfl,rfl,hk,hn',HK⟩:=hrel
    by_cases hlk:k<fs.length
    ·have hlkI:(k:Int)<(fs.length:Int):=by omega
     obtain⟨fb,fo,rfl,hkf,hcf⟩:=H6.out (by omega)
     have a0:=(World.cell?_of_block (a:=⟨fb,fo+k,none⟩) (HK.out.block fb (Hb.out fb hkf))).trans (hcf k (.string fs[k]) (by rw[List.getElem?_map,List.getElem?_eq_getElem hlk];rfl))
     have hsz:=H3.out fs[k] (List.getElem_mem hlk);generalize fs[k]=x at*;clear hcf;have hw1:IntKind.i64.wrap (1+(x.size:Int))=1+(x.size:Int):=IntWalk.i64_in _ (by omega)
     have hw2:IntKind.i64.wrap ((n':Int)+(1+(x.size:Int)))=(n':Int)+(1+(x.size:Int)):=IntWalk.i64_in _ (by omega)
     by_cases hg:n'+(1+x.size)>2500
     ·have hg1:decide ((n':Int)+(1+(x.size:Int))>2500)=true:=decide_eq_true (by omega)
      have hg2:decide ((2500:Int)<(n':Int)+(1+(x.size:Int)))=true:=decide_eq_true (by omega)
      have hle:(i:Int)≤(c:Int):=by omega
      go_wp2_with fail
      exact hR'.out _ _ ⟨⟨i,c,by omega,rfl⟩,HK.out⟩
     ·have hg1:decide ((n':Int)+(1+(x.size:Int))>2500)=false:=decide_eq_false (by omega)
      have hg2:decide ((2500:Int)<(n':Int)+(1+(x.size:Int)))=false:=decide_eq_false (by omega)
      go_wp2_with fail
      go_roundw
      case rel=>exact⟨n'+(1+x.size),k+1,by first|rfl|(congr 1;omega)|go_num,by go_num,by omega,by omega,HK⟩
      case measure=>exact msA
    ·obtain rfl:k=fs.length:=by omega
     have hlkI:¬(fs.length:Int)<(fs.length:Int):=by omega
     go_wp2_with fail
     go_roundw
     case rel=>exact⟨n',i+1,rfl,by go_num,by omega,hn',HK⟩
     case measure=>exact msA
  ·obtain rfl:i=ops.length:=by omega
   have hltI:¬(ops.length:Int)<(ops.length:Int):=by omega
   go_wp2_with fail
   exact hR'.out _ _ ⟨⟨_,_,Nat.le_refl _,rfl⟩,HK.out⟩
def DoTo (C:ConfM)(cs:List Int)(W:WrM)(live:SegM)(s:Nat)(t:Tab)(del:Bool)(id:Int)(fs:List ByteArray)(W':WrM)(er:Int)(cs':List Int):Prop:=
 if del=true then rdelL ⟨cs,W⟩ id=(er,⟨cs',W'⟩)else match toksM fs with|none=>er=4∧W'=W∧cs'=cs|some toks=>AddWay C cs W live s id toks (termsP cs t C.plan.slots.toNat toks []) W' er cs'
theorem Good.op {C:ConfM}{P:Pools}{cs:List Int}{W:WrM}{live:SegM}{s:Nat}{t:Tab}{q:Nat→Nat}{hi:Nat}(G:Good C P cs W live s t q hi)(del:Bool)(id:Int)(fs:List ByteArray)(hid:U32 id)(hv:W.ver+1≤4294967295):
  ∃W' er cs' n,(opT C W live ⟨del,id,fs⟩).ideal cs=some ((W',er),cs',n)∧n<1048576∧(0≤er∧er≤7)∧(er≠0→W'=W∧cs'=cs)∧(W'.segs.length≤65536∧cs'.length≤maxLen)∧DoTo C cs W live s t del id fs W' er cs'∧W'.ver≤W.ver+1∧
   (∃live' t' q' hi',Good C P cs' W' live' s t' q' hi'):=by
 have fin:∀{cs':List Int} {W':WrM} {live':SegM} {t':Tab} {q':Nat→Nat} {hi':Nat},Good C P cs' W' live' s t' q' hi'→W'.segs.length≤65536∧cs'.length≤maxLen:=fun G'=>by
  have h1:=G'.nseg;have h2:=G'.dic.len;exact⟨by omega,by unfold maxLen;omega⟩
 unfold DoTo
 cases del with
 |true=>
  obtain⟨W',er,cs',n,h1,h2,h3,h4,h5,h6⟩:=G.del id hv;refine⟨W',er,cs',n,?_,h3,by omega,h4,fin h6,by rw[if_pos rfl];exact h1,?_,_,_,_,_,h6⟩
  ·unfold opT;rw[if_pos rfl];exact h2
  ·unfold rdelL at h1;dsimp only at h1
   split at h1
   ·injection h1 with _ e;injection e with _ e;rw[←e];omega
   ·split at h1
    ·injection h1 with _ e;injection e with _ e;rw[←e];omega
    ·split at h1
     ·injection h1 with _ e;injection e with _ e;rw[←e];omega
     ·injection h1 with _ e;injection e with _ e;rw[←e];exact Int.le_refl _
 |false=>
  cases htk:toksM fs with
  |none=>
   refine⟨W,4,cs,0,?_,by decide,⟨by decide,by decide⟩,fun _=>⟨rfl,rfl⟩,fin G,?_,by omega,_,_,_,_,G⟩
   ·unfold opT;dsimp only;rw[if_neg Bool.false_ne_true,htk];rfl
   ·rw[if_neg Bool.false_ne_true];exact⟨rfl,rfl,rfl⟩
  |some toks=>
   have hsm:=toksM_small htk;obtain⟨W',er,cs',n,h1,h2,h3,h4,h5⟩:=G.add id hid toks (fun x hx=>(hsm.1 x hx).2) hsm.2 hv;have her:(0≤er∧er≤7)∧W'.ver≤W.ver+1:=by
    cases h1 with
    |dup=>exact⟨⟨by decide,by decide⟩,by omega⟩
    |seg=>exact⟨⟨by decide,by decide⟩,by omega⟩
    |terms=>exact⟨⟨by decide,by decide⟩,by omega⟩
    |full=>exact⟨⟨by decide,by decide⟩,by omega⟩
    |good=>exact⟨⟨by decide,by decide⟩,Int.le_refl _⟩
   have hG:∃live' t' q' hi',Good C P cs' W' live' s t' q' hi':=by
    by_cases h0:er=0
    ·obtain⟨t',q',hi',g⟩:=h5 h0;exact⟨_,_,_,_,g⟩
    ·obtain⟨e1,e2⟩:=h4 h0;subst e1 e2;exact⟨_,_,_,_,G⟩
   obtain⟨live',t',q',hi',g⟩:=hG;refine⟨W',er,cs',n,?_,h3,her.1,h4,fin g,by rw[if_neg Bool.false_ne_true];exact h1,her.2,_,_,_,_,g⟩
   unfold opT;dsimp only;rw[if_neg Bool.false_ne_true,htk];exact h2
theorem do_good {w0 w:World}{K:Nat→Prop}{X m c:Nat}{C:ConfM}{P:Pools}{cs:List Int}{W:WrM}{st:Int}{live:SegM}{s0:Nat}{t0:Tab}{q0:Nat→Nat}{hi0:Nat}(hw:Wd w0 w K X m c C cs W st)(G:Good C P cs W live s0 t0 q0 hi0)(hT:PTab w0)(hF:FoldTab w0)
  (o:OpV) (ho:o.ok w K) (hfn:o.fs.length≤1000000) (hv:W.ver+1≤4294967294):∃W' er cs',(∃n,(opT C W live ⟨o.del,o.id,o.fs⟩).ideal cs=some ((W',er),cs',n))∧DoTo C cs W live s0 t0 o.del o.id o.fs W' er cs'∧(0≤er∧er≤7)∧(er≠0→W'=W∧cs'=cs)∧W'.ver≤W.ver+1∧(∃live' t' q' hi',Good C P cs' W' live' s0 t' q' hi')∧
   Z 13 #[.pointer (some ⟨X,0,none⟩),.agg o.cells.toArray] w fun e w'=>
    e= .returned (.bool true)∧(∃st',Wd w0 w' (fun b=>K b∨(w.heap.size≤b∧b<w'.heap.size)) X m c C cs' W' st'∧((opT C W live ⟨o.del,o.id,o.fs⟩).wr cs=0→st'=st))∧Keeps (fun b=>b<w.heap.size∧b≠X∧b≠m∧b≠c) w w':=by
 obtain⟨W',er,cs',n,h1,h2,h3,h4,h5,h6,h7,h8⟩:=G.op o.del o.id o.fs ho.id (by omega)
 exact⟨W',er,cs',⟨n,h1⟩,h6,h3,h4,h7,h8,law_do hw G hT hF o.del o.id o.fs o.A o.c ho.sl hfn ho.id hv h1 h2 h3 (fun h=>(h4 h).1) h5 h6⟩
def exC (kk bb:Value):ConfM:=⟨2,64,2,1,0,0,20,200,kk,bb⟩
def exO (del:Bool):OpM:=⟨del,7,[⟨#[102,111,120,32,102,111,120]⟩]⟩
def stepS (C:ConfM)(y:List Int×WrM)(o:OpM):List Int×WrM:=match y.2.segs.getLast? with
 |none=>y
 |some live=>match(opT C y.2 live o).ideal y.1 with
  |some ((W',_),cs',_)=>(cs',W')
  |none=>y
def exS0 (kk bb:Value):List Int×WrM:=(newC (exC kk bb),newW (exC kk bb))
def exS1 (kk bb:Value):List Int×WrM:=stepS (exC kk bb) (exS0 kk bb) (exO false)
def exS2 (kk bb:Value):List Int×WrM:=stepS (exC kk bb) (exS1 kk bb) (exO false)
def exS3 (kk bb:Value):List Int×WrM:=stepS (exC kk bb) (exS2 kk bb) (exO true)
def exS4 (kk bb:Value):List Int×WrM:=stepS (exC kk bb) (exS3 kk bb) (exO true)
theorem ex_1 (kk bb:Value):(exS1 kk bb).2.ver=1:=by kernel_rfl
theorem ex_2 (kk bb:Value):(exS2 kk bb).2.ver=1:=by kernel_rfl
theorem ex_3 (kk bb:Value):(exS3 kk bb).2.ver=2:=by kernel_rfl
theorem ex_4 (kk bb:Value):(exS4 kk bb).2.ver=2:=by kernel_rfl
theorem stepS_of {C:ConfM}{y:List Int×WrM}{o:OpM}{live:SegM}{W':WrM}{er:Int}{cs':List Int}{n:Nat}(hl:y.2.segs.getLast?=some live)(h:(opT C y.2 live o).ideal y.1=some ((W',er),cs',n)):stepS C y o=(cs',W'):=by
 unfold stepS;rw[hl];dsimp only;rw[h]
end Go.Proofs.YtogdknnkhkjmcaaGreatDoor
namespace Go.Proofs.YtogdknnkhkjmcaaGreatDoor
open Go.RowKit Go.ChangeShapes Go.WideShapes Go.Deep
set_option linter.all false
set_option maxRecDepth 100000
section
variable {H:Type}{enc:TypeId×Value→H}{w:World}
end
end Go.Proofs.YtogdknnkhkjmcaaGreatDoor
